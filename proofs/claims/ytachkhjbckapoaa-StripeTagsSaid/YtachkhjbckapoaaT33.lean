/- What a stripe says, field by field: what layout's fields computes, for every sheet. No condition. -/
import Derived.Test.YtachkhjbckapoaaT04
import Derived.StillTailTactics
import Derived.Deep.RegionLaw
import Derived.Deep.AppendLies
namespace Go.Proofs.Ytachkhjbckapoaa
open Go.RowKit
set_option linter.unusedVariables false
set_option maxRecDepth 100000
set_option linter.unusedSimpArgs false

theorem infoField : (Try.prog.info? 115).map (fun i => (i.zero, i.size, i.bytes)) = some (some (.agg #[.pointer none, .int .i64 0]), 2, 16) := by kernel_rfl

/-- The fields of a kind: place and width. -/
def fl (k : Int) : List (Nat × Int) :=
  [(1, 1), (0, 7), (4, 1), (5, 1), (7, 5), (8, 3), (10, 1)] ++ (if k = 3 then [(2, 1), (3, 1)] else if k = 4 then [(2, 2), (3, 2), (9, 2)] else [(2, 2), (3, 2)]) ++ [(12, 2), (13, 2), (11, 2)]
/-- Their cells, the sheet lying in block b. -/
def flCells (b : Nat) (l : List (Nat × Int)) : List Value := l.flatMap fun x => [.pointer (some ⟨b, x.1, none⟩), .int .i64 x.2]

theorem cells_new (w : World) (l : List Value) (t : TypeId) : ∀ j u, l[j]? = some u → (w.alloc (.cells l.toArray t)).cell? ((⟨w.heap.size, 0, none⟩ : Addr).add j) = some u := by
  intro j u hj
  have e : (⟨w.heap.size, 0, none⟩ : Addr).add j = ⟨w.heap.size, j, none⟩ := by
    unfold Addr.add; by_cases h : j = 0 <;> simp [h]
  rw [e, cell_of_row _ w.heap.size j _ t (0, 0) (heap_alloc_new w _)]
  simpa using hj
theorem cells_newd (w : World) (l : List Value) (t : TypeId) : ∀ j u, l[j]? = some u → ((w.alloc (.cells l.toArray t)).drew).cell? ((⟨w.heap.size, 0, none⟩ : Addr).add j) = some u := cells_new w l t
theorem own_ad {w : World} {base e n size : Nat} {v : Value} {cs : List Value} {o : Obj} (h : w.ownsRow base e size v n cs) : ((w.alloc o).drew).ownsRow base e size v n cs := h.alloc o
theorem own_sl {w : World} {base e n size : Nat} {v : Value} {cs : List Value} (h : w.ownsRow base e size v n cs) : ∃ A c, v = .slice A n c ∧ n ≤ c ∧ c ≤ maxLen := by
  rcases h.2 with ⟨rfl, rfl⟩ | ⟨g, cap, cur, rfl, _, _, h1, h2, _⟩
  · exact ⟨none, 0, rfl, Nat.le_refl _, by simp [maxLen]⟩
  · exact ⟨_, cap, rfl, h1, h2⟩

set_option maxHeartbeats 2000000 in
set_option maxRecDepth 100000 in
theorem fields3 (b : Nat) (w : World) (hc : w.cell? ⟨b, 1, none⟩ = some (.int .i64 3)) :
    Calls Try.prog 101 #[.pointer (some ⟨b, 0, none⟩)] w fun e w' => ∃ v, e = .returned v ∧ w'.ownsRow w.heap.size 115 2 v (fl 3).length (flCells b (fl 3)) ∧ Below w.heap.size w w' := by
  have hb : b < w.heap.size := World.block_lt_of_cell? w ⟨b, 1, none⟩ hc
  have hbne : (b = w.heap.size) = False := by simp; omega
  obtain ⟨i0, hi, hz0, hz1, hz2⟩ := info_parts infoField
  go_enter Try.func101, Try.ntmps101
  go_wp2
  go_still_tail 28, (by kernel_rfl)
  go_wp2
  generalize hW1 : (w.alloc (Obj.cells #[.pointer (some ⟨b, 1, none⟩), .int .i64 1, .pointer (some ⟨b, 0, none⟩), .int .i64 7, .pointer (some ⟨b, 4, none⟩), .int .i64 1, .pointer (some ⟨b, 5, none⟩), .int .i64 1, .pointer (some ⟨b, 7, none⟩), .int .i64 5, .pointer (some ⟨b, 8, none⟩), .int .i64 3, .pointer (some ⟨b, 10, none⟩), .int .i64 1] 115)).drew = w1
  have ho1 : w1.ownsRow w.heap.size 115 2 (.slice (some ⟨w.heap.size, 0, none⟩) 7 7) 7 [.pointer (some ⟨b, 1, none⟩), .int .i64 1, .pointer (some ⟨b, 0, none⟩), .int .i64 7, .pointer (some ⟨b, 4, none⟩), .int .i64 1, .pointer (some ⟨b, 5, none⟩), .int .i64 1, .pointer (some ⟨b, 7, none⟩), .int .i64 5, .pointer (some ⟨b, 8, none⟩), .int .i64 3, .pointer (some ⟨b, 10, none⟩), .int .i64 1] := by rw [← hW1]; exact World.ownsRow_lit w #[.pointer (some ⟨b, 1, none⟩), .int .i64 1, .pointer (some ⟨b, 0, none⟩), .int .i64 7, .pointer (some ⟨b, 4, none⟩), .int .i64 1, .pointer (some ⟨b, 5, none⟩), .int .i64 1, .pointer (some ⟨b, 7, none⟩), .int .i64 5, .pointer (some ⟨b, 8, none⟩), .int .i64 3, .pointer (some ⟨b, 10, none⟩), .int .i64 1] 7 (Nat.le_refl _) (maxLen_ge (by omega)) rfl
  have hb1 : Below w.heap.size w w1 := by rw [← hW1]; exact (by repeat (first | (with_reducible exact bR _) | (with_reducible refine bT ?_ (by assumption)) | (with_reducible apply bA) | (with_reducible apply bD) | (with_reducible apply bN) | (with_reducible refine bS ?_ (by first | omega | (simp; done) | (simp; omega)))))
  have hz1' := hb1.size
  clear hW1
  go_region_law (refine step_append_lies _ rfl _ _ 112 rfl w.heap.size 115 i0 (.agg #[.pointer none, .int .i64 0]) 2 16 Try.underlying112 hi hz0 hz1 hz2 rfl (by decide) _ 7 _ rfl (own_ad ho1) _ _ _ [.pointer (some ⟨b, 2, none⟩), .int .i64 1, .pointer (some ⟨b, 3, none⟩), .int .i64 1] rfl rfl (cells_newd _ _ _) ?_ (by decide) ?_ ?_ ?_ _ rfl ?_; (focus (simp [Value.oneCell'])); (focus (exact maxLen_ge (by omega))); (focus omega); (focus (simp; omega)); intro g2 c2 w2 ho2 hg2 _ _)
  have hb2 := bG (bD (bA hb1 _)) hg2 (own_ge ho1)
  have hz2' := hb2.size
  have HG2 := Lib.hid (own_ge ho2)
  have HO2 := Lib.hid ho2
  clear hg2 ho2 ho1
  go_wp2
  have ho2 := HO2.out
  go_region_law (refine step_append_lies _ rfl _ _ 112 rfl w.heap.size 115 i0 (.agg #[.pointer none, .int .i64 0]) 2 16 Try.underlying112 hi hz0 hz1 hz2 rfl (by decide) _ 9 _ rfl (own_ad ho2) _ _ _ [.pointer (some ⟨b, 12, none⟩), .int .i64 2, .pointer (some ⟨b, 13, none⟩), .int .i64 2, .pointer (some ⟨b, 11, none⟩), .int .i64 2] rfl rfl (cells_newd _ _ _) ?_ (by decide) ?_ ?_ ?_ _ rfl ?_; (focus (simp [Value.oneCell'])); (focus (exact maxLen_ge (by omega))); (focus omega); (focus (simp; omega)); intro g3 c3 w3 ho3 hg3 _ _)
  have hb3 := bG (bD (bA hb2 _)) hg3 HG2.out
  have HO3 := Lib.hid ho3
  clear hg3 ho3 ho2 HO2
  go_wp2
  go_ret
  exact ⟨.slice (some ⟨g3, 0, none⟩) 12 c3, rfl, by have h := HO3.out; simpa [fl, flCells] using h, hb3⟩

set_option maxHeartbeats 2000000 in
set_option maxRecDepth 100000 in
theorem fields4 (b : Nat) (w : World) (hc : w.cell? ⟨b, 1, none⟩ = some (.int .i64 4)) :
    Calls Try.prog 101 #[.pointer (some ⟨b, 0, none⟩)] w fun e w' => ∃ v, e = .returned v ∧ w'.ownsRow w.heap.size 115 2 v (fl 4).length (flCells b (fl 4)) ∧ Below w.heap.size w w' := by
  have hb : b < w.heap.size := World.block_lt_of_cell? w ⟨b, 1, none⟩ hc
  have hbne : (b = w.heap.size) = False := by simp; omega
  obtain ⟨i0, hi, hz0, hz1, hz2⟩ := info_parts infoField
  go_enter Try.func101, Try.ntmps101
  go_wp2
  go_still_tail 28, (by kernel_rfl)
  go_wp2
  generalize hW1 : (w.alloc (Obj.cells #[.pointer (some ⟨b, 1, none⟩), .int .i64 1, .pointer (some ⟨b, 0, none⟩), .int .i64 7, .pointer (some ⟨b, 4, none⟩), .int .i64 1, .pointer (some ⟨b, 5, none⟩), .int .i64 1, .pointer (some ⟨b, 7, none⟩), .int .i64 5, .pointer (some ⟨b, 8, none⟩), .int .i64 3, .pointer (some ⟨b, 10, none⟩), .int .i64 1] 115)).drew = w1
  have ho1 : w1.ownsRow w.heap.size 115 2 (.slice (some ⟨w.heap.size, 0, none⟩) 7 7) 7 [.pointer (some ⟨b, 1, none⟩), .int .i64 1, .pointer (some ⟨b, 0, none⟩), .int .i64 7, .pointer (some ⟨b, 4, none⟩), .int .i64 1, .pointer (some ⟨b, 5, none⟩), .int .i64 1, .pointer (some ⟨b, 7, none⟩), .int .i64 5, .pointer (some ⟨b, 8, none⟩), .int .i64 3, .pointer (some ⟨b, 10, none⟩), .int .i64 1] := by rw [← hW1]; exact World.ownsRow_lit w #[.pointer (some ⟨b, 1, none⟩), .int .i64 1, .pointer (some ⟨b, 0, none⟩), .int .i64 7, .pointer (some ⟨b, 4, none⟩), .int .i64 1, .pointer (some ⟨b, 5, none⟩), .int .i64 1, .pointer (some ⟨b, 7, none⟩), .int .i64 5, .pointer (some ⟨b, 8, none⟩), .int .i64 3, .pointer (some ⟨b, 10, none⟩), .int .i64 1] 7 (Nat.le_refl _) (maxLen_ge (by omega)) rfl
  have hb1 : Below w.heap.size w w1 := by rw [← hW1]; exact (by repeat (first | (with_reducible exact bR _) | (with_reducible refine bT ?_ (by assumption)) | (with_reducible apply bA) | (with_reducible apply bD) | (with_reducible apply bN) | (with_reducible refine bS ?_ (by first | omega | (simp; done) | (simp; omega)))))
  have hz1' := hb1.size
  clear hW1
  go_region_law (refine step_append_lies _ rfl _ _ 112 rfl w.heap.size 115 i0 (.agg #[.pointer none, .int .i64 0]) 2 16 Try.underlying112 hi hz0 hz1 hz2 rfl (by decide) _ 7 _ rfl (own_ad ho1) _ _ _ [.pointer (some ⟨b, 2, none⟩), .int .i64 2, .pointer (some ⟨b, 3, none⟩), .int .i64 2, .pointer (some ⟨b, 9, none⟩), .int .i64 2] rfl rfl (cells_newd _ _ _) ?_ (by decide) ?_ ?_ ?_ _ rfl ?_; (focus (simp [Value.oneCell'])); (focus (exact maxLen_ge (by omega))); (focus omega); (focus (simp; omega)); intro g2 c2 w2 ho2 hg2 _ _)
  have hb2 := bG (bD (bA hb1 _)) hg2 (own_ge ho1)
  have hz2' := hb2.size
  have HG2 := Lib.hid (own_ge ho2)
  have HO2 := Lib.hid ho2
  clear hg2 ho2 ho1
  go_wp2
  have ho2 := HO2.out
  go_region_law (refine step_append_lies _ rfl _ _ 112 rfl w.heap.size 115 i0 (.agg #[.pointer none, .int .i64 0]) 2 16 Try.underlying112 hi hz0 hz1 hz2 rfl (by decide) _ 10 _ rfl (own_ad ho2) _ _ _ [.pointer (some ⟨b, 12, none⟩), .int .i64 2, .pointer (some ⟨b, 13, none⟩), .int .i64 2, .pointer (some ⟨b, 11, none⟩), .int .i64 2] rfl rfl (cells_newd _ _ _) ?_ (by decide) ?_ ?_ ?_ _ rfl ?_; (focus (simp [Value.oneCell'])); (focus (exact maxLen_ge (by omega))); (focus omega); (focus (simp; omega)); intro g3 c3 w3 ho3 hg3 _ _)
  have hb3 := bG (bD (bA hb2 _)) hg3 HG2.out
  have HO3 := Lib.hid ho3
  clear hg3 ho3 ho2 HO2
  go_wp2
  go_ret
  exact ⟨.slice (some ⟨g3, 0, none⟩) 13 c3, rfl, by have h := HO3.out; simpa [fl, flCells] using h, hb3⟩

set_option maxHeartbeats 2000000 in
set_option maxRecDepth 100000 in
theorem fields0 (b : Nat) (k : Int) (h3 : ¬ k = 3) (h4 : ¬ k = 4) (w : World) (hc : w.cell? ⟨b, 1, none⟩ = some (.int .i64 k)) :
    Calls Try.prog 101 #[.pointer (some ⟨b, 0, none⟩)] w fun e w' => ∃ v, e = .returned v ∧ w'.ownsRow w.heap.size 115 2 v (fl k).length (flCells b (fl k)) ∧ Below w.heap.size w w' := by
  have hd3 : (k == 3) = false := by simpa using h3
  have hd4 : (k == 4) = false := by simpa using h4
  have hb : b < w.heap.size := World.block_lt_of_cell? w ⟨b, 1, none⟩ hc
  have hbne : (b = w.heap.size) = False := by simp; omega
  obtain ⟨i0, hi, hz0, hz1, hz2⟩ := info_parts infoField
  go_enter Try.func101, Try.ntmps101
  go_wp2
  go_still_tail 28, (by kernel_rfl)
  go_wp2
  generalize hW1 : (w.alloc (Obj.cells #[.pointer (some ⟨b, 1, none⟩), .int .i64 1, .pointer (some ⟨b, 0, none⟩), .int .i64 7, .pointer (some ⟨b, 4, none⟩), .int .i64 1, .pointer (some ⟨b, 5, none⟩), .int .i64 1, .pointer (some ⟨b, 7, none⟩), .int .i64 5, .pointer (some ⟨b, 8, none⟩), .int .i64 3, .pointer (some ⟨b, 10, none⟩), .int .i64 1] 115)).drew = w1
  have ho1 : w1.ownsRow w.heap.size 115 2 (.slice (some ⟨w.heap.size, 0, none⟩) 7 7) 7 [.pointer (some ⟨b, 1, none⟩), .int .i64 1, .pointer (some ⟨b, 0, none⟩), .int .i64 7, .pointer (some ⟨b, 4, none⟩), .int .i64 1, .pointer (some ⟨b, 5, none⟩), .int .i64 1, .pointer (some ⟨b, 7, none⟩), .int .i64 5, .pointer (some ⟨b, 8, none⟩), .int .i64 3, .pointer (some ⟨b, 10, none⟩), .int .i64 1] := by rw [← hW1]; exact World.ownsRow_lit w #[.pointer (some ⟨b, 1, none⟩), .int .i64 1, .pointer (some ⟨b, 0, none⟩), .int .i64 7, .pointer (some ⟨b, 4, none⟩), .int .i64 1, .pointer (some ⟨b, 5, none⟩), .int .i64 1, .pointer (some ⟨b, 7, none⟩), .int .i64 5, .pointer (some ⟨b, 8, none⟩), .int .i64 3, .pointer (some ⟨b, 10, none⟩), .int .i64 1] 7 (Nat.le_refl _) (maxLen_ge (by omega)) rfl
  have hb1 : Below w.heap.size w w1 := by rw [← hW1]; exact (by repeat (first | (with_reducible exact bR _) | (with_reducible refine bT ?_ (by assumption)) | (with_reducible apply bA) | (with_reducible apply bD) | (with_reducible apply bN) | (with_reducible refine bS ?_ (by first | omega | (simp; done) | (simp; omega)))))
  have hz1' := hb1.size
  clear hW1
  go_region_law (refine step_append_lies _ rfl _ _ 112 rfl w.heap.size 115 i0 (.agg #[.pointer none, .int .i64 0]) 2 16 Try.underlying112 hi hz0 hz1 hz2 rfl (by decide) _ 7 _ rfl (own_ad ho1) _ _ _ [.pointer (some ⟨b, 2, none⟩), .int .i64 2, .pointer (some ⟨b, 3, none⟩), .int .i64 2] rfl rfl (cells_newd _ _ _) ?_ (by decide) ?_ ?_ ?_ _ rfl ?_; (focus (simp [Value.oneCell'])); (focus (exact maxLen_ge (by omega))); (focus omega); (focus (simp; omega)); intro g2 c2 w2 ho2 hg2 _ _)
  have hb2 := bG (bD (bA hb1 _)) hg2 (own_ge ho1)
  have hz2' := hb2.size
  have HG2 := Lib.hid (own_ge ho2)
  have HO2 := Lib.hid ho2
  clear hg2 ho2 ho1
  go_wp2
  have ho2 := HO2.out
  go_region_law (refine step_append_lies _ rfl _ _ 112 rfl w.heap.size 115 i0 (.agg #[.pointer none, .int .i64 0]) 2 16 Try.underlying112 hi hz0 hz1 hz2 rfl (by decide) _ 9 _ rfl (own_ad ho2) _ _ _ [.pointer (some ⟨b, 12, none⟩), .int .i64 2, .pointer (some ⟨b, 13, none⟩), .int .i64 2, .pointer (some ⟨b, 11, none⟩), .int .i64 2] rfl rfl (cells_newd _ _ _) ?_ (by decide) ?_ ?_ ?_ _ rfl ?_; (focus (simp [Value.oneCell'])); (focus (exact maxLen_ge (by omega))); (focus omega); (focus (simp; omega)); intro g3 c3 w3 ho3 hg3 _ _)
  have hb3 := bG (bD (bA hb2 _)) hg3 HG2.out
  have HO3 := Lib.hid ho3
  clear hg3 ho3 ho2 HO2
  go_wp2
  go_ret
  exact ⟨.slice (some ⟨g3, 0, none⟩) 12 c3, rfl, by have h := HO3.out; simpa [fl, flCells, h3, h4] using h, hb3⟩

set_option maxHeartbeats 2000000 in
set_option maxRecDepth 100000 in
theorem fields_any (b : Nat) (k : Int) (w : World) (hc : w.cell? ⟨b, 1, none⟩ = some (.int .i64 k)) :
    Calls Try.prog 101 #[.pointer (some ⟨b, 0, none⟩)] w fun e w' => ∃ v, e = .returned v ∧ w'.ownsRow w.heap.size 115 2 v (fl k).length (flCells b (fl k)) ∧ Below w.heap.size w w' := by
  by_cases h3 : k = 3
  · subst h3; exact fields3 b w hc
  · by_cases h4 : k = 4
    · subst h4; exact fields4 b w hc
    · exact fields0 b k h3 h4 w hc
end Go.Proofs.Ytachkhjbckapoaa

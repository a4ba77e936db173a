/- Layer 13's small functions: Suits, Widths of the reference, a blank sheet. Layer 13's widths: what layout's widths and Widths compute. No condition. -/
import Derived.Test.YtachkhjbckapoaaT09
import Derived.Test.YtachkhjbckapoaaT33
import Derived.Test.YtachkhjbckapoaaT05
namespace Go.Proofs.Ytachkhjbckapoaa
open Go.RowKit
set_option linter.unusedVariables false
set_option maxRecDepth 100000
set_option linter.unusedSimpArgs false

def suB (u l i : Int) : Bool := decide (0 ≤ l ∧ l ≤ u ∧ 0 ≤ i ∧ i ≤ 40)

set_option maxRecDepth 100000 in
theorem suits_any (a0 a1 a2 a3 a4 a5 a6 a7 a8 a9 a10 l i : Int) (w : World) :
    Calls Try.prog 102 #[.agg #[.int .i64 a0, .int .i64 a1, .int .i64 a2, .int .i64 a3, .int .i64 a4, .int .i64 a5, .int .i64 a6, .int .i64 a7, .int .i64 a8, .int .i64 a9, .int .i64 a10], .agg #[.int .i64 l, .int .i64 i]] w fun e w' => e = .returned (.bool (suB a9 l i)) ∧ Below w.heap.size w w' := by
  by_cases hd1 : 0 ≤ l
  rotate_left
  · have E := Lib.hid (show suB a9 l i = false by simp [suB]; omega)
    have d1 : decide (0 ≤ l) = false := by simpa using hd1
    go_enter Try.func102, Try.ntmps102
    go_wp2
    go_ret
    exact ⟨by rw [E.out] <;> rfl, (by repeat (first | (with_reducible exact bR _) | (with_reducible refine bT ?_ (by assumption)) | (with_reducible apply bA) | (with_reducible apply bD) | (with_reducible apply bN) | (with_reducible refine bS ?_ (by first | omega | (simp; done) | (simp; omega)))))⟩
  have d1 : decide (0 ≤ l) = true := by simpa using hd1
  by_cases hd2 : l ≤ a9
  rotate_left
  · have E := Lib.hid (show suB a9 l i = false by simp [suB]; omega)
    have d2 : decide (l ≤ a9) = false := by simpa using hd2
    go_enter Try.func102, Try.ntmps102
    go_wp2
    go_ret
    exact ⟨by rw [E.out] <;> rfl, (by repeat (first | (with_reducible exact bR _) | (with_reducible refine bT ?_ (by assumption)) | (with_reducible apply bA) | (with_reducible apply bD) | (with_reducible apply bN) | (with_reducible refine bS ?_ (by first | omega | (simp; done) | (simp; omega)))))⟩
  have d2 : decide (l ≤ a9) = true := by simpa using hd2
  by_cases hd3 : 0 ≤ i
  rotate_left
  · have E := Lib.hid (show suB a9 l i = false by simp [suB]; omega)
    have d3 : decide (0 ≤ i) = false := by simpa using hd3
    go_enter Try.func102, Try.ntmps102
    go_wp2
    go_ret
    exact ⟨by rw [E.out] <;> rfl, (by repeat (first | (with_reducible exact bR _) | (with_reducible refine bT ?_ (by assumption)) | (with_reducible apply bA) | (with_reducible apply bD) | (with_reducible apply bN) | (with_reducible refine bS ?_ (by first | omega | (simp; done) | (simp; omega)))))⟩
  have d3 : decide (0 ≤ i) = true := by simpa using hd3
  by_cases hd4 : i ≤ 40
  rotate_left
  · have E := Lib.hid (show suB a9 l i = false by simp [suB]; omega)
    have d4 : decide (i ≤ 40) = false := by simpa using hd4
    go_enter Try.func102, Try.ntmps102
    go_wp2
    go_ret
    exact ⟨by rw [E.out] <;> rfl, (by repeat (first | (with_reducible exact bR _) | (with_reducible refine bT ?_ (by assumption)) | (with_reducible apply bA) | (with_reducible apply bD) | (with_reducible apply bN) | (with_reducible refine bS ?_ (by first | omega | (simp; done) | (simp; omega)))))⟩
  have d4 : decide (i ≤ 40) = true := by simpa using hd4
  have E := Lib.hid (show suB a9 l i = true by simp [suB]; omega)
  go_enter Try.func102, Try.ntmps102
  go_wp2
  go_ret
  exact ⟨by rw [E.out] <;> rfl, (by repeat (first | (with_reducible exact bR _) | (with_reducible refine bT ?_ (by assumption)) | (with_reducible apply bA) | (with_reducible apply bD) | (with_reducible apply bN) | (with_reducible refine bS ?_ (by first | omega | (simp; done) | (simp; omega)))))⟩

/-- The widths of a kind. -/
def wsL (k : Int) : List Int := if k < 1 ∨ 4 < k then [] else if k = 3 then [1, 7, 1, 1, 5, 3, 1, 1, 1, 2, 2, 2] else if k = 4 then [1, 7, 1, 1, 5, 3, 1, 2, 2, 2, 2, 2, 2] else [1, 7, 1, 1, 5, 3, 1, 2, 2, 2, 2, 2]
def wsE (k : Int) : Int := if k < 1 ∨ 4 < k then 8 else 0

theorem own_litL (w : World) (l : List Int) (e : TypeId) (hl : l.length ≤ maxLen) : (w.alloc (.cells (l.map (Value.int .i64)).toArray e)).ownsRow w.heap.size e 1 (.slice (some ⟨w.heap.size, 0, none⟩) l.length l.length) l.length (l.map (.int .i64)) :=
  World.ownsRow_lit w (l.map (Value.int .i64)).toArray l.length (Nat.le_refl _) hl (by simp)

set_option maxRecDepth 100000 in
theorem blank_any (k : Int) (w : World) (h : 0 ≤ k) (h4 : k ≤ 4) : Calls Try.prog 100 #[.int .i64 k] w fun e w' => e = .returned (.pointer (some ⟨w.heap.size, 0, none⟩)) ∧ w' = w.alloc (.cells #[.int .i64 0, .int .i64 k, .int .i64 0, .int .i64 0, .int .i64 0, .int .i64 0, .int .i64 0, .int .i64 0, .int .i64 0, .int .i64 (k % 3), .int .i64 0, .int .i64 0, .int .i64 0, .int .i64 0, .int .i64 0] 116) := by
  have hk : k = 0 ∨ k = 1 ∨ k = 2 ∨ k = 3 ∨ k = 4 := by omega
  rcases hk with rfl | rfl | rfl | rfl | rfl
  all_goals
    go_enter Try.func100, Try.ntmps100
    go_wp2
    go_ret
    exact ⟨rfl, rfl⟩
end Go.Proofs.Ytachkhjbckapoaa

namespace Go.Proofs.Ytachkhjbckapoaa
open Go.RowKit
set_option linter.unusedVariables false
set_option maxRecDepth 100000
set_option linter.unusedSimpArgs false

theorem fl_cells (b : Nat) : ∀ (l : List (Nat × Int)) (j : Nat), j < l.length → (flCells b l)[j * 2]? = some (.pointer (some ⟨b, (l.getD j (0, 0)).1, none⟩)) ∧ (flCells b l)[j * 2 + 1]? = some (.int .i64 (l.getD j (0, 0)).2)
  | [], j, h => by simp at h
  | x :: l, 0, h => by simp [flCells]
  | x :: l, j + 1, h => by
    have := fl_cells b l j (by simpa using h)
    have e : flCells b (x :: l) = [.pointer (some ⟨b, x.1, none⟩), .int .i64 x.2] ++ flCells b l := rfl
    rw [e]
    have e1 : (j + 1) * 2 = j * 2 + 1 + 1 := by omega
    rw [e1]
    simpa using this
theorem lit1s (w : World) (o : Obj) (k : IntKind) (x : Int) (t : TypeId) : RdI ((w.alloc o).alloc (.cells #[.int k x] t)) k (some ⟨w.heap.size + 1, 0, none⟩) [x] := by
  have h := RdI.lit1 (w.alloc o) k x t
  rwa [World.size_alloc] at h
theorem fl_pos (k : Int) : 0 < (fl k).length := by simp [fl]
theorem fl_le (k : Int) : (fl k).length ≤ 13 := by
  unfold fl
  split
  · simp
  · split <;> simp

set_option maxHeartbeats 2000000 in
set_option maxRecDepth 100000 in
theorem widths_any (b : Nat) (k : Int) (w : World) (hc : w.cell? ⟨b, 1, none⟩ = some (.int .i64 k)) :
    Calls Try.prog 104 #[.pointer (some ⟨b, 0, none⟩), .func (.func 101) #[] #[]] w (ListRet ((fl k).map (·.2)) none w) := by
  obtain ⟨i0, hi, hz0, hz1, hz2⟩ := info_parts infoI64
  go_enter Try.func104, Try.ntmps104
  go_wp2_with fail
  refine (fields_any b k _ hc).mono ?_
  rintro e w2 ⟨v, rfl, ho, hb2⟩
  obtain ⟨g, cap, rfl, hgl⟩ : ∃ g cap, v = .slice (some ⟨g, 0, none⟩) (fl k).length cap ∧ g < w2.heap.size := by
    have hp := fl_pos k
    rcases ho.2 with ⟨_, h0⟩ | ⟨g, cap, cur, rfl, _, hh, _⟩
    · omega
    · exact ⟨g, cap, rfl, (Array.getElem?_eq_some_iff.1 hh).1⟩
  have hcells : ∀ j, j < (fl k).length → w2.cell? ⟨g, j * 2, none⟩ = some (.pointer (some ⟨b, ((fl k).getD j (0, 0)).1, none⟩)) ∧ w2.cell? ⟨g, j * 2 + 1, none⟩ = some (.int .i64 ((fl k).getD j (0, 0)).2) := by
    intro j hj
    obtain ⟨e1, e2⟩ := fl_cells b (fl k) j hj
    exact ⟨(ho.cellAt (j * 2) (by omega)).trans e1, (ho.cellAt (j * 2 + 1) (by omega)).trans e2⟩
  have HL := Lib.hid (fl_le k)
  have HB2 := Lib.hid hb2
  clear ho hb2
  obtain ⟨L, hL⟩ : ∃ L, fl k = L := ⟨_, rfl⟩
  rw [hL] at hcells HL ⊢
  have HLK := Lib.hid hL
  clear hL
  go_wp2
  go_loopw [5, 12] (fun v i wr => ∃ (j : Nat) (acc : List Int), j ≤ L.length ∧ i = .int .i64 j ∧ wr.ownsRow w2.heap.size 3 1 v acc.length (acc.map (.int .i64)) ∧ Hid (acc = (L.take j).map (·.2)) ∧ Below w2.heap.size w2 wr) (fun _ i _ => L.length - (intOf i).toNat)
  case atStart => exact ⟨0, [], Nat.zero_le _, rfl, World.ownsRow_nil _ _ _ _, Lib.hid (by simp), bR _⟩
  case round =>
    obtain ⟨j, acc, hj, rfl, ho, hacc, hbl⟩ := hrel
    by_cases hlt : j < L.length
    · obtain ⟨c1, c2⟩ := hcells j hlt
      have c1' := keep_cell hbl c1
      have c2' := keep_cell hbl c2
      have hj13 : j < 13 := by have := HL.out; omega
      have hal : acc.length ≤ 13 := by rw [hacc.out]; simp; omega
      have hsn := Lib.hid (show acc ++ [(L.getD j (0, 0)).2] = (L.take (j + 1)).map (·.2) by rw [hacc.out, List.take_succ_eq_append_getElem hlt, List.map_append]; congr 1; simp [hlt])
      obtain ⟨⟨o, d⟩, hq⟩ : ∃ q, L.getD j (0, 0) = q := ⟨_, rfl⟩
      rw [hq] at c1' c2' hsn
      have hsz := hbl.size
      have HG := Lib.hid (own_ge ho)
      clear hq c1 c2
      go_wp2_with (at_builtin; refine wpL_app (k := .i64) rfl _ _ 97 rfl w2.heap.size 3 i0 (.int .i64 0) 8 Try.underlying97 hi hz0 hz1 hz2 rfl _ acc rfl ((ho.alloc _).alloc _) _ _ [d] rfl (lit1s _ _ _ _ _) ?_ ?_ ?_ ?_; (focus (simp only [List.length_append, List.length_cons, List.length_nil]; exact maxLen_ge (by omega))); (focus (simp only [List.length_append, List.length_cons, List.length_nil]; omega)); (focus (simp; omega)); intro v3 w3 ho3 hg3 _)
      have hb3 := bG (bA (bA hbl _) _) hg3 HG.out
      have HO3 := Lib.hid ho3
      clear hg3 ho3 ho
      go_roundw
      case rel => exact ⟨j + 1, acc ++ [d], by omega, by go_num, HO3.out, hsn, hb3⟩
      case measure => simp [intOf]; omega
    · have hfin := Lib.hid (show L.map (·.2) = acc by rw [hacc.out, List.take_of_length_le (by omega)])
      have HO := Lib.hid ho
      clear ho hacc
      go_wp2
      go_ret
      exact ⟨_, rfl, by rw [HLK.out, hfin.out]; exact own_base HO.out HB2.out.size, bT HB2.out hbl⟩

theorem fl_ws {k : Int} (h1 : ¬ k < 1) (h4 : ¬ 4 < k) : (fl k).map (·.2) = wsL k := by
  have hk : k = 1 ∨ k = 2 ∨ k = 3 ∨ k = 4 := by omega
  rcases hk with rfl | rfl | rfl | rfl <;> rfl

set_option maxHeartbeats 2000000 in
set_option maxRecDepth 100000 in
theorem layWidths_any (k : Int) (w : World) : Calls Try.prog 98 #[.int .i64 k] w (ListRet (wsL k) (some (wsE k)) w) := by
  by_cases h1 : k < 1
  · have E1 := Lib.hid (show wsL k = [] by simp [wsL, h1])
    have E2 := Lib.hid (show wsE k = 8 by simp [wsE, h1])
    have d1 : decide (k < 1) = true := by simpa using h1
    go_enter Try.func98, Try.ntmps98
    go_wp2
    go_ret2
    exact ⟨_, by rw [E2.out] <;> rfl, by rw [E1.out]; exact World.ownsRow_nil _ _ _ _, (by repeat (first | (with_reducible exact bR _) | (with_reducible refine bT ?_ (by assumption)) | (with_reducible apply bA) | (with_reducible apply bD) | (with_reducible apply bN) | (with_reducible refine bS ?_ (by first | omega | (simp; done) | (simp; omega)))))⟩
  have d1 : decide (k < 1) = false := by simpa using h1
  by_cases h2 : 4 < k
  · have E1 := Lib.hid (show wsL k = [] by simp [wsL, h2])
    have E2 := Lib.hid (show wsE k = 8 by simp [wsE, h2])
    have d2 : decide (4 < k) = true := by simpa using h2
    go_enter Try.func98, Try.ntmps98
    go_wp2
    go_ret2
    exact ⟨_, by rw [E2.out] <;> rfl, by rw [E1.out]; exact World.ownsRow_nil _ _ _ _, (by repeat (first | (with_reducible exact bR _) | (with_reducible refine bT ?_ (by assumption)) | (with_reducible apply bA) | (with_reducible apply bD) | (with_reducible apply bN) | (with_reducible refine bS ?_ (by first | omega | (simp; done) | (simp; omega)))))⟩
  have d2 : decide (4 < k) = false := by simpa using h2
  have E1 := Lib.hid (fl_ws h1 h2)
  have E2 := Lib.hid (show wsE k = 0 by simp [wsE, h1, h2])
  have hk0 : 0 ≤ k := by omega
  have hk4 : k ≤ 4 := by omega
  go_enter Try.func98, Try.ntmps98
  go_wp2_with fail
  refine (blank_any k _ hk0 hk4).mono ?_
  rintro e w2 ⟨rfl, rfl⟩
  go_wp2_with fail
  refine (widths_any w.heap.size k _ ?_).mono ?_
  · rw [cell_of_row _ w.heap.size 1 _ _ (0, 0) (heap_alloc_new w _)]; rfl
  rintro e w3 ⟨v, rfl, ho, hb3⟩
  rw [E1.out] at ho
  obtain ⟨vA, vc, rfl, _, _⟩ := own_slice ho
  have HO := Lib.hid ho
  have HB := Lib.hid (bT (bel1 w _) hb3)
  clear ho hb3
  go_wp2
  go_ret2
  exact ⟨.slice vA (wsL k).length vc, by rw [E2.out] <;> rfl, own_base (base' := w.heap.size) HO.out (by rw [World.size_alloc]; omega), HB.out⟩
end Go.Proofs.Ytachkhjbckapoaa

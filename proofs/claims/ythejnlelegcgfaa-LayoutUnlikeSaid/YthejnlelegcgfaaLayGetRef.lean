/- Layer 13's Get: what the document's answer computes: the very same function. No condition. -/
import Derived.Test.YthejnlelegcgfaaLayGet
import Derived.Test.YthejnlelegcgfaaTickRef
import Derived.Test.YthejnlelegcgfaaBcdSplitRef
namespace Go.Proofs.Ythejnlelegcgfaa
open Go.RowKit
set_option linter.unusedVariables false
set_option linter.unusedSimpArgs false

theorem q12_below {b : Nat} {wr W w9 : World} {c0 c1 c2 c3 c4 c5 c6 c7 c8 c9 c10 c11 : Int} (h : (b < W.heap.size ∧ W.cell? ⟨b, 0, none⟩ = some (.int .i64 c0) ∧ W.cell? ⟨b, 1, none⟩ = some (.int .i64 c1) ∧ W.cell? ⟨b, 2, none⟩ = some (.int .i64 c2) ∧ W.cell? ⟨b, 3, none⟩ = some (.int .i64 c3) ∧ W.cell? ⟨b, 4, none⟩ = some (.int .i64 c4) ∧ W.cell? ⟨b, 5, none⟩ = some (.int .i64 c5) ∧ W.cell? ⟨b, 6, none⟩ = some (.int .i64 c6) ∧ W.cell? ⟨b, 7, none⟩ = some (.int .i64 c7) ∧ W.cell? ⟨b, 8, none⟩ = some (.int .i64 c8) ∧ W.cell? ⟨b, 9, none⟩ = some (.int .i64 c9) ∧ W.cell? ⟨b, 10, none⟩ = some (.int .i64 c10) ∧ W.cell? ⟨b, 11, none⟩ = some (.int .i64 c11)) ∧ Below wr.heap.size wr W) (hb : Below W.heap.size W w9) : (b < w9.heap.size ∧ w9.cell? ⟨b, 0, none⟩ = some (.int .i64 c0) ∧ w9.cell? ⟨b, 1, none⟩ = some (.int .i64 c1) ∧ w9.cell? ⟨b, 2, none⟩ = some (.int .i64 c2) ∧ w9.cell? ⟨b, 3, none⟩ = some (.int .i64 c3) ∧ w9.cell? ⟨b, 4, none⟩ = some (.int .i64 c4) ∧ w9.cell? ⟨b, 5, none⟩ = some (.int .i64 c5) ∧ w9.cell? ⟨b, 6, none⟩ = some (.int .i64 c6) ∧ w9.cell? ⟨b, 7, none⟩ = some (.int .i64 c7) ∧ w9.cell? ⟨b, 8, none⟩ = some (.int .i64 c8) ∧ w9.cell? ⟨b, 9, none⟩ = some (.int .i64 c9) ∧ w9.cell? ⟨b, 10, none⟩ = some (.int .i64 c10) ∧ w9.cell? ⟨b, 11, none⟩ = some (.int .i64 c11)) ∧ Below wr.heap.size wr w9 :=
  ⟨⟨Nat.lt_of_lt_of_le h.1.1 hb.size, by have hl := h.1.1; obtain ⟨hc, _⟩ := bcell hb; simp only [hc b _ hl]; exact h.1.2⟩, bT h.2 hb⟩
theorem q13_below {b : Nat} {wr W w9 : World} {c0 c1 c2 c3 c4 c5 c6 c7 c8 c9 c10 c11 c12 : Int} (h : (b < W.heap.size ∧ W.cell? ⟨b, 0, none⟩ = some (.int .i64 c0) ∧ W.cell? ⟨b, 1, none⟩ = some (.int .i64 c1) ∧ W.cell? ⟨b, 2, none⟩ = some (.int .i64 c2) ∧ W.cell? ⟨b, 3, none⟩ = some (.int .i64 c3) ∧ W.cell? ⟨b, 4, none⟩ = some (.int .i64 c4) ∧ W.cell? ⟨b, 5, none⟩ = some (.int .i64 c5) ∧ W.cell? ⟨b, 6, none⟩ = some (.int .i64 c6) ∧ W.cell? ⟨b, 7, none⟩ = some (.int .i64 c7) ∧ W.cell? ⟨b, 8, none⟩ = some (.int .i64 c8) ∧ W.cell? ⟨b, 9, none⟩ = some (.int .i64 c9) ∧ W.cell? ⟨b, 10, none⟩ = some (.int .i64 c10) ∧ W.cell? ⟨b, 11, none⟩ = some (.int .i64 c11) ∧ W.cell? ⟨b, 12, none⟩ = some (.int .i64 c12)) ∧ Below wr.heap.size wr W) (hb : Below W.heap.size W w9) : (b < w9.heap.size ∧ w9.cell? ⟨b, 0, none⟩ = some (.int .i64 c0) ∧ w9.cell? ⟨b, 1, none⟩ = some (.int .i64 c1) ∧ w9.cell? ⟨b, 2, none⟩ = some (.int .i64 c2) ∧ w9.cell? ⟨b, 3, none⟩ = some (.int .i64 c3) ∧ w9.cell? ⟨b, 4, none⟩ = some (.int .i64 c4) ∧ w9.cell? ⟨b, 5, none⟩ = some (.int .i64 c5) ∧ w9.cell? ⟨b, 6, none⟩ = some (.int .i64 c6) ∧ w9.cell? ⟨b, 7, none⟩ = some (.int .i64 c7) ∧ w9.cell? ⟨b, 8, none⟩ = some (.int .i64 c8) ∧ w9.cell? ⟨b, 9, none⟩ = some (.int .i64 c9) ∧ w9.cell? ⟨b, 10, none⟩ = some (.int .i64 c10) ∧ w9.cell? ⟨b, 11, none⟩ = some (.int .i64 c11) ∧ w9.cell? ⟨b, 12, none⟩ = some (.int .i64 c12)) ∧ Below wr.heap.size wr w9 :=
  ⟨⟨Nat.lt_of_lt_of_le h.1.1 hb.size, by have hl := h.1.1; obtain ⟨hc, _⟩ := bcell hb; simp only [hc b _ hl]; exact h.1.2⟩, bT h.2 hb⟩
theorem q11_below {b : Nat} {wr W w9 : World} {c0 c1 c2 c3 c4 c5 c6 c7 c8 c9 c10 : Int} (h : (b < W.heap.size ∧ W.cell? ⟨b, 0, none⟩ = some (.int .i64 c0) ∧ W.cell? ⟨b, 1, none⟩ = some (.int .i64 c1) ∧ W.cell? ⟨b, 2, none⟩ = some (.int .i64 c2) ∧ W.cell? ⟨b, 3, none⟩ = some (.int .i64 c3) ∧ W.cell? ⟨b, 4, none⟩ = some (.int .i64 c4) ∧ W.cell? ⟨b, 5, none⟩ = some (.int .i64 c5) ∧ W.cell? ⟨b, 6, none⟩ = some (.int .i64 c6) ∧ W.cell? ⟨b, 7, none⟩ = some (.int .i64 c7) ∧ W.cell? ⟨b, 8, none⟩ = some (.int .i64 c8) ∧ W.cell? ⟨b, 9, none⟩ = some (.int .i64 c9) ∧ W.cell? ⟨b, 10, none⟩ = some (.int .i64 c10)) ∧ Below wr.heap.size wr W) (hb : Below W.heap.size W w9) : (b < w9.heap.size ∧ w9.cell? ⟨b, 0, none⟩ = some (.int .i64 c0) ∧ w9.cell? ⟨b, 1, none⟩ = some (.int .i64 c1) ∧ w9.cell? ⟨b, 2, none⟩ = some (.int .i64 c2) ∧ w9.cell? ⟨b, 3, none⟩ = some (.int .i64 c3) ∧ w9.cell? ⟨b, 4, none⟩ = some (.int .i64 c4) ∧ w9.cell? ⟨b, 5, none⟩ = some (.int .i64 c5) ∧ w9.cell? ⟨b, 6, none⟩ = some (.int .i64 c6) ∧ w9.cell? ⟨b, 7, none⟩ = some (.int .i64 c7) ∧ w9.cell? ⟨b, 8, none⟩ = some (.int .i64 c8) ∧ w9.cell? ⟨b, 9, none⟩ = some (.int .i64 c9) ∧ w9.cell? ⟨b, 10, none⟩ = some (.int .i64 c10)) ∧ Below wr.heap.size wr w9 :=
  ⟨⟨Nat.lt_of_lt_of_le h.1.1 hb.size, by have hl := h.1.1; obtain ⟨hc, _⟩ := bcell hb; simp only [hc b _ hl]; exact h.1.2⟩, bT h.2 hb⟩
theorem qr_below {b : Nat} {wr W w9 : World} {c0 c1 c2 c3 c4 c5 c6 c7 c8 c9 c10 c11 c12 c13 c14 : Int} (h : (b < W.heap.size ∧ W.cell? ⟨b, 0, none⟩ = some (.int .i64 c0) ∧ W.cell? ⟨b, 1, none⟩ = some (.int .i64 c1) ∧ W.cell? ⟨b, 2, none⟩ = some (.int .i64 c2) ∧ W.cell? ⟨b, 3, none⟩ = some (.int .i64 c3) ∧ W.cell? ⟨b, 4, none⟩ = some (.int .i64 c4) ∧ W.cell? ⟨b, 5, none⟩ = some (.int .i64 c5) ∧ W.cell? ⟨b, 6, none⟩ = some (.int .i64 c6) ∧ W.cell? ⟨b, 7, none⟩ = some (.int .i64 c7) ∧ W.cell? ⟨b, 8, none⟩ = some (.int .i64 c8) ∧ W.cell? ⟨b, 9, none⟩ = some (.int .i64 c9) ∧ W.cell? ⟨b, 10, none⟩ = some (.int .i64 c10) ∧ W.cell? ⟨b, 11, none⟩ = some (.int .i64 c11) ∧ W.cell? ⟨b, 12, none⟩ = some (.int .i64 c12) ∧ W.cell? ⟨b, 13, none⟩ = some (.int .i64 c13) ∧ W.cell? ⟨b, 14, none⟩ = some (.int .i64 c14)) ∧ Below wr.heap.size wr W) (hb : Below W.heap.size W w9) : (b < w9.heap.size ∧ w9.cell? ⟨b, 0, none⟩ = some (.int .i64 c0) ∧ w9.cell? ⟨b, 1, none⟩ = some (.int .i64 c1) ∧ w9.cell? ⟨b, 2, none⟩ = some (.int .i64 c2) ∧ w9.cell? ⟨b, 3, none⟩ = some (.int .i64 c3) ∧ w9.cell? ⟨b, 4, none⟩ = some (.int .i64 c4) ∧ w9.cell? ⟨b, 5, none⟩ = some (.int .i64 c5) ∧ w9.cell? ⟨b, 6, none⟩ = some (.int .i64 c6) ∧ w9.cell? ⟨b, 7, none⟩ = some (.int .i64 c7) ∧ w9.cell? ⟨b, 8, none⟩ = some (.int .i64 c8) ∧ w9.cell? ⟨b, 9, none⟩ = some (.int .i64 c9) ∧ w9.cell? ⟨b, 10, none⟩ = some (.int .i64 c10) ∧ w9.cell? ⟨b, 11, none⟩ = some (.int .i64 c11) ∧ w9.cell? ⟨b, 12, none⟩ = some (.int .i64 c12) ∧ w9.cell? ⟨b, 13, none⟩ = some (.int .i64 c13) ∧ w9.cell? ⟨b, 14, none⟩ = some (.int .i64 c14)) ∧ Below wr.heap.size wr w9 :=
  ⟨⟨Nat.lt_of_lt_of_le h.1.1 hb.size, by have hl := h.1.1; obtain ⟨hc, _⟩ := bcell hb; simp only [hc b _ hl]; exact h.1.2⟩, bT h.2 hb⟩
theorem splitGo_acc : ∀ (ws l acc : List Int), (splitGo l ws acc).2 = 0 → ∃ t, (splitGo l ws acc).1 = acc ++ t
  | [], l, acc, _ => ⟨[], by simp [splitGo]⟩
  | x :: ws, l, acc, h => by
    rw [splitGo_cons] at h ⊢
    split
    · rename_i hg; rw [if_pos hg] at h; exact absurd h hg
    · rename_i hg
      rw [if_neg hg] at h
      obtain ⟨t, ht⟩ := splitGo_acc ws _ _ h
      exact ⟨[(getR (l.take x.toNat)).1] ++ t, by rw [ht, List.append_assoc]⟩
theorem splitR_head {d : Int} {l ws : List Int} (h9 : ¬ 9 < d) (h : (splitR (d :: l) (1 :: ws)).2 = 0) : ∃ t, (splitR (d :: l) (1 :: ws)).1 = d :: t := by
  unfold splitR at h ⊢
  split
  · rename_i h20; rw [if_pos h20] at h; simp at h
  · rename_i h20
    rw [if_neg h20] at h
    split
    · rename_i hs; rw [hs] at h; simp at h
    · rename_i s hs
      rw [hs] at h
      simp only at h
      split
      · rename_i hn; rw [if_pos hn] at h; simp at h
      · rename_i hn
        rw [if_neg hn] at h
        have hg : getR [d] = (d, 0) := by rw [getR_short (by simp), getGo_cons, if_neg h9]; simp [getGo]
        rw [splitGo_cons] at h ⊢
        simp only [Int.toNat_one, List.take_succ_cons, List.take_zero, hg] at h ⊢
        obtain ⟨t, ht⟩ := splitGo_acc ws _ _ (by simpa using h)
        exact ⟨t, by simpa using ht⟩
theorem wsL_head {d : Int} (h1 : ¬ d < 1) (h4 : ¬ 4 < d) : ∃ ws, wsL d = 1 :: ws := by
  unfold wsL
  rw [if_neg (by omega)]
  split
  · exact ⟨_, rfl⟩
  · split <;> exact ⟨_, rfl⟩

theorem refGetOut {W w : World} {tmps : Array Value} {l : List Int} {c : List Int} {e : Int} {fr : Nat × Nat} {ty : TypeId} (hp : tmps.getD 2 undef = .pointer (some ⟨w.heap.size, 0, none⟩)) (hq : tmps.getD 3 undef = .int .i64 e)
    (hg : W.heap[w.heap.size]? = some (.cells (c.map (Value.int .i64)).toArray ty fr)) (hc : c.length = 15) (hE : layG l = (c, e)) (hb : Below w.heap.size w W) :
    ∃ u, (results Try.f53 tmps).run Try.prog W = .ok u W ∧ GetRet (layG l) w (.returned u) W := by
  refine ⟨_, results_cellrow (ty := ty) rfl Try.underlying52 rfl hp hq hg ?_, by rw [hE], hb⟩
  rw [show (c.map (Value.int .i64)).toArray.size = 15 by simp [hc]]
  kernel_rfl

set_option maxHeartbeats 8000000 in
set_option maxRecDepth 100000 in
theorem refGet_g4 (ad : Addr) (c : Nat) (d : Int) (l' : List Int) (w : World) (hr : RdI w .u8 (some ad) (d :: l')) (hlc : (d :: l').length ≤ c) (hc9 : c ≤ 9223372036854775807) (hb : ∀ x ∈ d :: l', 0 ≤ x ∧ x < 256)
    (hcd : (w.alloc (.cells #[.int .i64 0, .int .i64 0, .int .i64 0, .int .i64 0, .int .i64 0, .int .i64 0, .int .i64 0, .int .i64 0, .int .i64 0, .int .i64 0, .int .i64 0, .int .i64 0, .int .i64 0, .int .i64 0, .int .i64 0] 52)).cell? ad = some (.int .u8 d)) (h9 : ¬ 9 < d) (h8 : wsE d = 0) (h7 : (splitR (d :: l') (wsL d)).2 = 0) (h4 : d = 4) :
    Calls Try.prog 53 #[.slice (some ad) (d :: l').length c] w (GetRet (layG (d :: l')) w) := by
  have hlt : 0 < (d :: l').length := by simp
  have d0 : (((d :: l').length : Int) == 0) = false := by simp; omega
  have hbd := hb d List.mem_cons_self
  obtain ⟨m, hm⟩ : ∃ m, (d :: l').length = m := ⟨_, rfl⟩
  have hlt2 : 0 < m := by omega
  have d9 : decide (9 < d) = false := by simpa using h9
  have d4 : (d == 4) = true := by simpa using h4
  have H4 := Lib.hid h4
  clear h4
  have hk := wsE_kind h8
  have hwl := wsL_le d
  obtain ⟨L, hL⟩ : ∃ L, d :: l' = L := ⟨_, rfl⟩
  rw [hL] at hr hlc hb hm d0 h7 ⊢
  have HLL := Lib.hid hL
  subst hm
  clear hL
  have hd0 : 0 ≤ d := by omega
  have hd4 : d ≤ 4 := by omega
  go_enter Try.func53, Try.ntmps53
  go_wp2_with fail
  refine (refWidths_any d _).mono ?_
  rintro e w2 ⟨u, rfl, uo, hb2⟩
  obtain ⟨uA, uc, rfl, _, _⟩ := own_slice uo
  have ur := RdI.of_own uo
  have hr2 := (hr.below (bel1 w _)).below hb2
  have hg2 := (hb2.block w.heap.size (by simp)).trans (heap_alloc_new w _)
  have HB2 := Lib.hid (bT (bel1 w _) hb2)
  clear uo hb2
  go_wp2_with fail
  refine (refSplit_any (some ad) uA c uc L (wsL d) _ hr2 ur hlc hc9 (by omega) hb).mono ?_
  rintro e w3 ⟨z, rfl, zo, hb3⟩
  have hz3 : w.heap.size < w2.heap.size := (Array.getElem?_eq_some_iff.1 hg2).1
  have hg3 := Lib.hid ((hb3.block w.heap.size hz3).trans hg2)
  have HB3 := Lib.hid (bT HB2.out hb3)
  clear hg2 hr2 ur
  have hz4 : w.heap.size < w3.heap.size := by have := hb3.size; omega
  clear hb3
  have hvl := splitR_vlen h7
  obtain ⟨ws, hws⟩ := wsL_head (show ¬ d < 1 by omega) (show ¬ 4 < d by omega)
  obtain ⟨V', hV'⟩ := splitR_head (d := d) (l := l') (ws := ws) (by omega) (by rw [← hws, HLL.out]; exact h7)
  rw [← hws, HLL.out] at hV'
  have hE0 : layG L = if okC (cellsOf d (d :: V')) = true then (cellsOf d (d :: V'), 0) else (zeroC, 9) := by
    rw [← HLL.out, layG_cons, HLL.out, if_neg (by omega), if_neg (by simp [h8]), if_neg (by simp [h7]), hV']
  rw [hV'] at zo hvl
  clear hws hV'
  have hl : (wsL d).length = 13 := by rw [H4.out]; rfl
  obtain ⟨v1, v2, v3, v4, v5, v6, v7, v8, v9, v10, v11, v12, rfl⟩ : ∃ v1 v2 v3 v4 v5 v6 v7 v8 v9 v10 v11 v12, V' = [v1, v2, v3, v4, v5, v6, v7, v8, v9, v10, v11, v12] := by
    rw [hl] at hvl
    rcases V' with _ | ⟨v1, _ | ⟨v2, _ | ⟨v3, _ | ⟨v4, _ | ⟨v5, _ | ⟨v6, _ | ⟨v7, _ | ⟨v8, _ | ⟨v9, _ | ⟨v10, _ | ⟨v11, _ | ⟨v12, _ | ⟨v13, t⟩⟩⟩⟩⟩⟩⟩⟩⟩⟩⟩⟩⟩ <;> simp at hvl
    exact ⟨_, _, _, _, _, _, _, _, _, _, _, _, rfl⟩
  obtain ⟨g, cap, rfl, hgl, hgb, hcap⟩ : ∃ g cap, z = .slice (some ⟨g, 0, none⟩) 13 cap ∧ g < w3.heap.size ∧ w2.heap.size ≤ g ∧ 13 ≤ cap := by
    rcases zo.2 with ⟨_, h0⟩ | ⟨g, cap, cur, rfl, hg, hh, hq, _⟩
    · simp at h0
    · exact ⟨g, cap, rfl, (Array.getElem?_eq_some_iff.1 hh).1, by simpa using hg, by simpa using hq⟩
  have hq0 : (g < w3.heap.size ∧ w3.cell? ⟨g, 0, none⟩ = some (.int .i64 d) ∧ w3.cell? ⟨g, 1, none⟩ = some (.int .i64 v1) ∧ w3.cell? ⟨g, 2, none⟩ = some (.int .i64 v2) ∧ w3.cell? ⟨g, 3, none⟩ = some (.int .i64 v3) ∧ w3.cell? ⟨g, 4, none⟩ = some (.int .i64 v4) ∧ w3.cell? ⟨g, 5, none⟩ = some (.int .i64 v5) ∧ w3.cell? ⟨g, 6, none⟩ = some (.int .i64 v6) ∧ w3.cell? ⟨g, 7, none⟩ = some (.int .i64 v7) ∧ w3.cell? ⟨g, 8, none⟩ = some (.int .i64 v8) ∧ w3.cell? ⟨g, 9, none⟩ = some (.int .i64 v9) ∧ w3.cell? ⟨g, 10, none⟩ = some (.int .i64 v10) ∧ w3.cell? ⟨g, 11, none⟩ = some (.int .i64 v11) ∧ w3.cell? ⟨g, 12, none⟩ = some (.int .i64 v12)) ∧ Below w3.heap.size w3 w3 := ⟨⟨hgl, (zo.cellAt 0 (by simp)).trans rfl, (zo.cellAt 1 (by simp)).trans rfl, (zo.cellAt 2 (by simp)).trans rfl, (zo.cellAt 3 (by simp)).trans rfl, (zo.cellAt 4 (by simp)).trans rfl, (zo.cellAt 5 (by simp)).trans rfl, (zo.cellAt 6 (by simp)).trans rfl, (zo.cellAt 7 (by simp)).trans rfl, (zo.cellAt 8 (by simp)).trans rfl, (zo.cellAt 9 (by simp)).trans rfl, (zo.cellAt 10 (by simp)).trans rfl, (zo.cellAt 11 (by simp)).trans rfl, (zo.cellAt 12 (by simp)).trans rfl⟩, Below.refl _ _⟩
  have hE1 : layG L = if okC [v1, d, v7, v8, v2, v3, 0, v4, v5, v9, v6, v12, v10, v11, 0] = true then ([v1, d, v7, v8, v2, v3, 0, v4, v5, v9, v6, v12, v10, v11, 0], 0) else (zeroC, 9) := by rw [hE0]; unfold cellsOf; rw [if_pos H4.out]; rfl
  have HX := Lib.hid hE1
  clear hE0 hE1 zo hvl hl
  go_wp2_with fail
  refine wp_region_held_drew (S := fun w9 => (g < w9.heap.size ∧ w9.cell? ⟨g, 0, none⟩ = some (.int .i64 d) ∧ w9.cell? ⟨g, 1, none⟩ = some (.int .i64 v1) ∧ w9.cell? ⟨g, 2, none⟩ = some (.int .i64 v2) ∧ w9.cell? ⟨g, 3, none⟩ = some (.int .i64 v3) ∧ w9.cell? ⟨g, 4, none⟩ = some (.int .i64 v4) ∧ w9.cell? ⟨g, 5, none⟩ = some (.int .i64 v5) ∧ w9.cell? ⟨g, 6, none⟩ = some (.int .i64 v6) ∧ w9.cell? ⟨g, 7, none⟩ = some (.int .i64 v7) ∧ w9.cell? ⟨g, 8, none⟩ = some (.int .i64 v8) ∧ w9.cell? ⟨g, 9, none⟩ = some (.int .i64 v9) ∧ w9.cell? ⟨g, 10, none⟩ = some (.int .i64 v10) ∧ w9.cell? ⟨g, 11, none⟩ = some (.int .i64 v11) ∧ w9.cell? ⟨g, 12, none⟩ = some (.int .i64 v12)) ∧ Below w3.heap.size w3 w9) (by as_aux_lemma => kernel_rfl) ⟨hq0.1, hq0.2.drew⟩ (fun hHeld => ?_)
  refine wpAnyH_take (i := 0) (oi := ?_) (v := ?_) ?hiu64 (by as_aux_lemma => kernel_rfl) (by as_aux_lemma => kernel_rfl) (by as_aux_lemma => kernel_rfl) ?hQu64 (Or.inl ⟨?hwu64, ?hyu64⟩) hHeld ?restu64
  case hiu64 => simp only [List.getElem?_toArray, List.getElem?_cons_zero, List.getElem?_cons_succ]; rfl
  case hwu64 => rfl
  case hyu64 => (intro w9 hSw; (try dsimp only at hSw); go_simp; (try with_reducible rfl))
  case hQu64 => exact fun _ _ _ h => h
  (try simp only [Act.put, List.setIfInBounds_toArray, List.set_cons_zero, List.set_cons_succ])
  refine wpAnyH_take (i := 1) (oi := ?_) (v := ?_) ?hiu65 (by as_aux_lemma => kernel_rfl) (by as_aux_lemma => kernel_rfl) (by as_aux_lemma => kernel_rfl) ?hQu65 (Or.inl ⟨?hwu65, ?hyu65⟩) hHeld ?restu65
  case hiu65 => simp only [List.getElem?_toArray, List.getElem?_cons_zero, List.getElem?_cons_succ]; rfl
  case hwu65 => rfl
  case hyu65 => (intro w9 hSw; (try dsimp only at hSw); go_simp; (try with_reducible rfl))
  case hQu65 => exact fun _ _ _ h => h
  (try simp only [Act.put, List.setIfInBounds_toArray, List.set_cons_zero, List.set_cons_succ])
  refine wpAnyH_take (i := 2) (oi := ?_) (v := ?_) ?hiu66 (by as_aux_lemma => kernel_rfl) (by as_aux_lemma => kernel_rfl) (by as_aux_lemma => kernel_rfl) ?hQu66 (Or.inl ⟨?hwu66, ?hyu66⟩) hHeld ?restu66
  case hiu66 => simp only [List.getElem?_toArray, List.getElem?_cons_zero, List.getElem?_cons_succ]; rfl
  case hwu66 => rfl
  case hyu66 => (intro w9 hSw; (try dsimp only at hSw); go_simp; (try with_reducible rfl))
  case hQu66 => exact fun _ _ _ h => h
  (try simp only [Act.put, List.setIfInBounds_toArray, List.set_cons_zero, List.set_cons_succ])
  refine wpAnyH_take (i := 3) (oi := ?_) (v := ?_) ?hiu67 (by as_aux_lemma => kernel_rfl) (by as_aux_lemma => kernel_rfl) (by as_aux_lemma => kernel_rfl) ?hQu67 (Or.inl ⟨?hwu67, ?hyu67⟩) hHeld ?restu67
  case hiu67 => simp only [List.getElem?_toArray, List.getElem?_cons_zero, List.getElem?_cons_succ]; rfl
  case hwu67 => rfl
  case hyu67 => (intro w9 hSw; (try dsimp only at hSw); go_simp; (try with_reducible rfl))
  case hQu67 => exact fun _ _ _ h => h
  (try simp only [Act.put, List.setIfInBounds_toArray, List.set_cons_zero, List.set_cons_succ])
  refine wpAnyH_take (i := 4) (oi := ?_) (v := ?_) ?hiu68 (by as_aux_lemma => kernel_rfl) (by as_aux_lemma => kernel_rfl) (by as_aux_lemma => kernel_rfl) ?hQu68 (Or.inl ⟨?hwu68, ?hyu68⟩) hHeld ?restu68
  case hiu68 => simp only [List.getElem?_toArray, List.getElem?_cons_zero, List.getElem?_cons_succ]; rfl
  case hwu68 => rfl
  case hyu68 => (intro w9 hSw; (try dsimp only at hSw); go_simp; (try with_reducible rfl))
  case hQu68 => exact fun _ _ _ h => h
  (try simp only [Act.put, List.setIfInBounds_toArray, List.set_cons_zero, List.set_cons_succ])
  refine wpAnyH_take (i := 5) (oi := ?_) (v := ?_) ?hiu69 (by as_aux_lemma => kernel_rfl) (by as_aux_lemma => kernel_rfl) (by as_aux_lemma => kernel_rfl) ?hQu69 (Or.inl ⟨?hwu69, ?hyu69⟩) hHeld ?restu69
  case hiu69 => simp only [List.getElem?_toArray, List.getElem?_cons_zero, List.getElem?_cons_succ]; rfl
  case hwu69 => rfl
  case hyu69 => (intro w9 hSw; (try dsimp only at hSw); go_simp; (try with_reducible rfl))
  case hQu69 => exact fun _ _ _ h => h
  (try simp only [Act.put, List.setIfInBounds_toArray, List.set_cons_zero, List.set_cons_succ])
  refine wpAnyH_take (i := 6) (oi := ?_) (v := ?_) ?hiu70 (by as_aux_lemma => kernel_rfl) (by as_aux_lemma => kernel_rfl) (by as_aux_lemma => kernel_rfl) ?hQu70 (Or.inl ⟨?hwu70, ?hyu70⟩) hHeld ?restu70
  case hiu70 => simp only [List.getElem?_toArray, List.getElem?_cons_zero, List.getElem?_cons_succ]; rfl
  case hwu70 => rfl
  case hyu70 => (intro w9 hSw; (try dsimp only at hSw); go_simp; (try with_reducible rfl))
  case hQu70 => exact fun _ _ _ h => h
  (try simp only [Act.put, List.setIfInBounds_toArray, List.set_cons_zero, List.set_cons_succ])
  refine wpAnyH_take (i := 7) (oi := ?_) (v := ?_) ?hiu71 (by as_aux_lemma => kernel_rfl) (by as_aux_lemma => kernel_rfl) (by as_aux_lemma => kernel_rfl) ?hQu71 (Or.inl ⟨?hwu71, ?hyu71⟩) hHeld ?restu71
  case hiu71 => simp only [List.getElem?_toArray, List.getElem?_cons_zero, List.getElem?_cons_succ]; rfl
  case hwu71 => rfl
  case hyu71 => (intro w9 hSw; (try dsimp only at hSw); go_simp; (try with_reducible rfl))
  case hQu71 => exact fun _ _ _ h => h
  (try simp only [Act.put, List.setIfInBounds_toArray, List.set_cons_zero, List.set_cons_succ])
  refine wpAnyH_take (i := 8) (oi := ?_) (v := ?_) ?hiu72 (by as_aux_lemma => kernel_rfl) (by as_aux_lemma => kernel_rfl) (by as_aux_lemma => kernel_rfl) ?hQu72 (Or.inl ⟨?hwu72, ?hyu72⟩) hHeld ?restu72
  case hiu72 => simp only [List.getElem?_toArray, List.getElem?_cons_zero, List.getElem?_cons_succ]; rfl
  case hwu72 => rfl
  case hyu72 => (intro w9 hSw; (try dsimp only at hSw); go_simp; (try with_reducible rfl))
  case hQu72 => exact fun _ _ _ h => h
  (try simp only [Act.put, List.setIfInBounds_toArray, List.set_cons_zero, List.set_cons_succ])
  refine wpAnyH_take (i := 9) (oi := ?_) (v := ?_) ?hiu73 (by as_aux_lemma => kernel_rfl) (by as_aux_lemma => kernel_rfl) (by as_aux_lemma => kernel_rfl) ?hQu73 (Or.inl ⟨?hwu73, ?hyu73⟩) hHeld ?restu73
  case hiu73 => simp only [List.getElem?_toArray, List.getElem?_cons_zero, List.getElem?_cons_succ]; rfl
  case hwu73 => rfl
  case hyu73 => (intro w9 hSw; (try dsimp only at hSw); go_simp; (try with_reducible rfl))
  case hQu73 => exact fun _ _ _ h => h
  (try simp only [Act.put, List.setIfInBounds_toArray, List.set_cons_zero, List.set_cons_succ])
  refine wpAnyH_take (i := 10) (oi := ?_) (v := ?_) ?hiu74 (by as_aux_lemma => kernel_rfl) (by as_aux_lemma => kernel_rfl) (by as_aux_lemma => kernel_rfl) ?hQu74 (Or.inl ⟨?hwu74, ?hyu74⟩) hHeld ?restu74
  case hiu74 => simp only [List.getElem?_toArray, List.getElem?_cons_zero, List.getElem?_cons_succ]; rfl
  case hwu74 => rfl
  case hyu74 => (intro w9 hSw; (try dsimp only at hSw); go_simp; (try with_reducible rfl))
  case hQu74 => exact fun _ _ _ h => h
  (try simp only [Act.put, List.setIfInBounds_toArray, List.set_cons_zero, List.set_cons_succ])
  refine wpAnyH_take (i := 11) (oi := ?_) (v := ?_) ?hiu75 (by as_aux_lemma => kernel_rfl) (by as_aux_lemma => kernel_rfl) (by as_aux_lemma => kernel_rfl) ?hQu75 (Or.inl ⟨?hwu75, ?hyu75⟩) hHeld ?restu75
  case hiu75 => simp only [List.getElem?_toArray, List.getElem?_cons_zero, List.getElem?_cons_succ]; rfl
  case hwu75 => rfl
  case hyu75 => (intro w9 hSw; (try dsimp only at hSw); go_simp; (try with_reducible rfl))
  case hQu75 => exact fun _ _ _ h => h
  (try simp only [Act.put, List.setIfInBounds_toArray, List.set_cons_zero, List.set_cons_succ])
  refine wpAnyH_take (i := 12) (oi := ?_) (v := ?_) ?hiu76 (by as_aux_lemma => kernel_rfl) (by as_aux_lemma => kernel_rfl) (by as_aux_lemma => kernel_rfl) ?hQu76 (Or.inl ⟨?hwu76, ?hyu76⟩) hHeld ?restu76
  case hiu76 => simp only [List.getElem?_toArray, List.getElem?_cons_zero, List.getElem?_cons_succ]; rfl
  case hwu76 => rfl
  case hyu76 => (intro w9 hSw; (try dsimp only at hSw); go_simp; (try with_reducible rfl))
  case hQu76 => exact fun _ _ _ h => h
  (try simp only [Act.put, List.setIfInBounds_toArray, List.set_cons_zero, List.set_cons_succ])
  refine wpAnyH_take (i := 13) (oi := ?_) (v := ?_) ?hiu77 (by as_aux_lemma => kernel_rfl) (by as_aux_lemma => kernel_rfl) (by as_aux_lemma => kernel_rfl) ?hQu77 (Or.inl ⟨?hwu77, ?hyu77⟩) hHeld ?restu77
  case hiu77 => simp only [List.getElem?_toArray, List.getElem?_cons_zero, List.getElem?_cons_succ]; rfl
  case hwu77 => rfl
  case hyu77 => (intro w9 hSw; (try dsimp only at hSw); go_simp; (try with_reducible rfl))
  case hQu77 => exact fun _ _ _ h => h
  (try simp only [Act.put, List.setIfInBounds_toArray, List.set_cons_zero, List.set_cons_succ])
  refine wpAnyH_take (i := 14) (oi := ?_) (v := ?_) ?hiu78 (by as_aux_lemma => kernel_rfl) (by as_aux_lemma => kernel_rfl) (by as_aux_lemma => kernel_rfl) ?hQu78 (Or.inl ⟨?hwu78, ?hyu78⟩) hHeld ?restu78
  case hiu78 => simp only [List.getElem?_toArray, List.getElem?_cons_zero, List.getElem?_cons_succ]; rfl
  case hwu78 => rfl
  case hyu78 => (intro w9 hSw; (try dsimp only at hSw); go_simp; (try with_reducible rfl))
  case hQu78 => exact fun _ _ _ h => h
  (try simp only [Act.put, List.setIfInBounds_toArray, List.set_cons_zero, List.set_cons_succ])
  refine wpAnyH_take (i := 15) (oi := ?_) (v := ?_) ?hiu79 (by as_aux_lemma => kernel_rfl) (by as_aux_lemma => kernel_rfl) (by as_aux_lemma => kernel_rfl) ?hQu79 (Or.inl ⟨?hwu79, ?hyu79⟩) hHeld ?restu79
  case hiu79 => simp only [List.getElem?_toArray, List.getElem?_cons_zero, List.getElem?_cons_succ]; rfl
  case hwu79 => rfl
  case hyu79 => (intro w9 hSw; (try dsimp only at hSw); go_simp; (try with_reducible rfl))
  case hQu79 => exact fun _ _ _ h => h
  (try simp only [Act.put, List.setIfInBounds_toArray, List.set_cons_zero, List.set_cons_succ])
  refine wpAnyH_take (i := 16) (oi := ?_) (v := ?_) ?hiu80 (by as_aux_lemma => kernel_rfl) (by as_aux_lemma => kernel_rfl) (by as_aux_lemma => kernel_rfl) ?hQu80 (Or.inl ⟨?hwu80, ?hyu80⟩) hHeld ?restu80
  case hiu80 => simp only [List.getElem?_toArray, List.getElem?_cons_zero, List.getElem?_cons_succ]; rfl
  case hwu80 => rfl
  case hyu80 => (intro w9 hSw; (try dsimp only at hSw); go_simp; (try with_reducible rfl))
  case hQu80 => exact fun _ _ _ h => h
  (try simp only [Act.put, List.setIfInBounds_toArray, List.set_cons_zero, List.set_cons_succ])
  refine wpAnyH_take (i := 17) (oi := ?_) (v := ?_) ?hiu81 (by as_aux_lemma => kernel_rfl) (by as_aux_lemma => kernel_rfl) (by as_aux_lemma => kernel_rfl) ?hQu81 (Or.inl ⟨?hwu81, ?hyu81⟩) hHeld ?restu81
  case hiu81 => simp only [List.getElem?_toArray, List.getElem?_cons_zero, List.getElem?_cons_succ]; rfl
  case hwu81 => rfl
  case hyu81 => (intro w9 hSw; (try dsimp only at hSw); go_simp; (try with_reducible rfl))
  case hQu81 => exact fun _ _ _ h => h
  (try simp only [Act.put, List.setIfInBounds_toArray, List.set_cons_zero, List.set_cons_succ])
  refine wpAnyH_take (i := 18) (oi := ?_) (v := ?_) ?hiu82 (by as_aux_lemma => kernel_rfl) (by as_aux_lemma => kernel_rfl) (by as_aux_lemma => kernel_rfl) ?hQu82 (Or.inl ⟨?hwu82, ?hyu82⟩) hHeld ?restu82
  case hiu82 => simp only [List.getElem?_toArray, List.getElem?_cons_zero, List.getElem?_cons_succ]; rfl
  case hwu82 => rfl
  case hyu82 => (intro w9 hSw; (try dsimp only at hSw); go_simp; (try with_reducible rfl))
  case hQu82 => exact fun _ _ _ h => h
  (try simp only [Act.put, List.setIfInBounds_toArray, List.set_cons_zero, List.set_cons_succ])
  refine wpAnyH_take (i := 19) (oi := ?_) (v := ?_) ?hiu83 (by as_aux_lemma => kernel_rfl) (by as_aux_lemma => kernel_rfl) (by as_aux_lemma => kernel_rfl) ?hQu83 (Or.inl ⟨?hwu83, ?hyu83⟩) hHeld ?restu83
  case hiu83 => simp only [List.getElem?_toArray, List.getElem?_cons_zero, List.getElem?_cons_succ]; rfl
  case hwu83 => rfl
  case hyu83 => (intro w9 hSw; (try dsimp only at hSw); go_simp; (try with_reducible rfl))
  case hQu83 => exact fun _ _ _ h => h
  (try simp only [Act.put, List.setIfInBounds_toArray, List.set_cons_zero, List.set_cons_succ])
  refine wpAnyH_take (i := 20) (oi := ?_) (v := ?_) ?hiu84 (by as_aux_lemma => kernel_rfl) (by as_aux_lemma => kernel_rfl) (by as_aux_lemma => kernel_rfl) ?hQu84 (Or.inl ⟨?hwu84, ?hyu84⟩) hHeld ?restu84
  case hiu84 => simp only [List.getElem?_toArray, List.getElem?_cons_zero, List.getElem?_cons_succ]; rfl
  case hwu84 => rfl
  case hyu84 => (intro w9 hSw; (try dsimp only at hSw); go_simp; (try with_reducible rfl))
  case hQu84 => exact fun _ _ _ h => h
  (try simp only [Act.put, List.setIfInBounds_toArray, List.set_cons_zero, List.set_cons_succ])
  refine wpAnyH_take (i := 21) (oi := ?_) (v := ?_) ?hiu85 (by as_aux_lemma => kernel_rfl) (by as_aux_lemma => kernel_rfl) (by as_aux_lemma => kernel_rfl) ?hQu85 (Or.inl ⟨?hwu85, ?hyu85⟩) hHeld ?restu85
  case hiu85 => simp only [List.getElem?_toArray, List.getElem?_cons_zero, List.getElem?_cons_succ]; rfl
  case hwu85 => rfl
  case hyu85 => (intro w9 hSw; (try dsimp only at hSw); go_simp; (try with_reducible rfl))
  case hQu85 => exact fun _ _ _ h => h
  (try simp only [Act.put, List.setIfInBounds_toArray, List.set_cons_zero, List.set_cons_succ])
  refine wpAnyH_take (i := 22) (oi := ?_) (v := ?_) ?hiu86 (by as_aux_lemma => kernel_rfl) (by as_aux_lemma => kernel_rfl) (by as_aux_lemma => kernel_rfl) ?hQu86 (Or.inl ⟨?hwu86, ?hyu86⟩) hHeld ?restu86
  case hiu86 => simp only [List.getElem?_toArray, List.getElem?_cons_zero, List.getElem?_cons_succ]; rfl
  case hwu86 => rfl
  case hyu86 => (intro w9 hSw; (try dsimp only at hSw); go_simp; (try with_reducible rfl))
  case hQu86 => exact fun _ _ _ h => h
  (try simp only [Act.put, List.setIfInBounds_toArray, List.set_cons_zero, List.set_cons_succ])
  refine wpAnyH_take (i := 23) (oi := ?_) (v := ?_) ?hiu87 (by as_aux_lemma => kernel_rfl) (by as_aux_lemma => kernel_rfl) (by as_aux_lemma => kernel_rfl) ?hQu87 (Or.inl ⟨?hwu87, ?hyu87⟩) hHeld ?restu87
  case hiu87 => simp only [List.getElem?_toArray, List.getElem?_cons_zero, List.getElem?_cons_succ]; rfl
  case hwu87 => rfl
  case hyu87 => (intro w9 hSw; (try dsimp only at hSw); go_simp; (try with_reducible rfl))
  case hQu87 => exact fun _ _ _ h => h
  (try simp only [Act.put, List.setIfInBounds_toArray, List.set_cons_zero, List.set_cons_succ])
  refine wpAnyH_take (i := 24) (oi := ?_) (v := ?_) ?hiu88 (by as_aux_lemma => kernel_rfl) (by as_aux_lemma => kernel_rfl) (by as_aux_lemma => kernel_rfl) ?hQu88 (Or.inl ⟨?hwu88, ?hyu88⟩) hHeld ?restu88
  case hiu88 => simp only [List.getElem?_toArray, List.getElem?_cons_zero, List.getElem?_cons_succ]; rfl
  case hwu88 => rfl
  case hyu88 => (intro w9 hSw; (try dsimp only at hSw); go_simp; (try with_reducible rfl))
  case hQu88 => exact fun _ _ _ h => h
  (try simp only [Act.put, List.setIfInBounds_toArray, List.set_cons_zero, List.set_cons_succ])
  refine wpAnyH_take (i := 25) (oi := ?_) (v := ?_) ?hiu89 (by as_aux_lemma => kernel_rfl) (by as_aux_lemma => kernel_rfl) (by as_aux_lemma => kernel_rfl) ?hQu89 (Or.inl ⟨?hwu89, ?hyu89⟩) hHeld ?restu89
  case hiu89 => simp only [List.getElem?_toArray, List.getElem?_cons_zero, List.getElem?_cons_succ]; rfl
  case hwu89 => rfl
  case hyu89 => (intro w9 hSw; (try dsimp only at hSw); go_simp; (try with_reducible rfl))
  case hQu89 => exact fun _ _ _ h => h
  (try simp only [Act.put, List.setIfInBounds_toArray, List.set_cons_zero, List.set_cons_succ])
  refine wpAnyH_take (i := 26) (oi := ?_) (v := ?_) ?hiu90 (by as_aux_lemma => kernel_rfl) (by as_aux_lemma => kernel_rfl) (by as_aux_lemma => kernel_rfl) ?hQu90 (Or.inl ⟨?hwu90, ?hyu90⟩) hHeld ?restu90
  case hiu90 => simp only [List.getElem?_toArray, List.getElem?_cons_zero, List.getElem?_cons_succ]; rfl
  case hwu90 => rfl
  case hyu90 => (intro w9 hSw; (try dsimp only at hSw); go_simp; (try with_reducible rfl))
  case hQu90 => exact fun _ _ _ h => h
  (try simp only [Act.put, List.setIfInBounds_toArray, List.set_cons_zero, List.set_cons_succ])
  refine wpAnyH_take (i := 27) (oi := ?_) (v := ?_) ?hiu91 (by as_aux_lemma => kernel_rfl) (by as_aux_lemma => kernel_rfl) (by as_aux_lemma => kernel_rfl) ?hQu91 (Or.inl ⟨?hwu91, ?hyu91⟩) hHeld ?restu91
  case hiu91 => simp only [List.getElem?_toArray, List.getElem?_cons_zero, List.getElem?_cons_succ]; rfl
  case hwu91 => rfl
  case hyu91 => (intro w9 hSw; (try dsimp only at hSw); go_simp; (try with_reducible rfl))
  case hQu91 => exact fun _ _ _ h => h
  (try simp only [Act.put, List.setIfInBounds_toArray, List.set_cons_zero, List.set_cons_succ])
  refine wpAnyH_ready (rs := [28]) (by as_aux_lemma => kernel_rfl) (by simp) (AllReadyH.cons (o := ?_) ?hiu92 (fun K hK => ?_) AllReadyH.nil)
  case hiu92 => simp only [List.getElem?_toArray, List.getElem?_cons_zero, List.getElem?_cons_succ]; rfl
  go_simp
  refine hK.out _ _ ?_ (fun hHeld => ?_)
  · exact q13_below hq0 (bel1 _ _).drew
  clear hK K
  (try simp only [Act.put, List.setIfInBounds_toArray, List.set_cons_zero, List.set_cons_succ])
  refine wpAnyH_ready (rs := [29]) (by as_aux_lemma => kernel_rfl) (by simp) (AllReadyH.cons (o := ?_) ?hiu93 (fun K hK => ?_) AllReadyH.nil)
  case hiu93 => simp only [List.getElem?_toArray, List.getElem?_cons_zero, List.getElem?_cons_succ]; rfl
  go_simp
  refine hK.out _ _ ?_ (fun hHeld => ?_)
  · exact q13_below hq0 (bel1 _ _).drew
  clear hK K
  (try simp only [Act.put, List.setIfInBounds_toArray, List.set_cons_zero, List.set_cons_succ])
  refine wpAnyH_done (by as_aux_lemma => kernel_rfl) ?_ _
  go_wp2
  clear hHeld
  obtain ⟨w4, hw4⟩ : ∃ w4, (w3.alloc (.cells #[.int .i64 v1, .int .i64 d, .int .i64 v7, .int .i64 v8, .int .i64 v2, .int .i64 v3, .int .i64 0, .int .i64 v4, .int .i64 v5, .int .i64 v9, .int .i64 v6] 23)).drew = w4 := ⟨_, rfl⟩
  have hq4 : (g < w4.heap.size ∧ w4.cell? ⟨g, 0, none⟩ = some (.int .i64 d) ∧ w4.cell? ⟨g, 1, none⟩ = some (.int .i64 v1) ∧ w4.cell? ⟨g, 2, none⟩ = some (.int .i64 v2) ∧ w4.cell? ⟨g, 3, none⟩ = some (.int .i64 v3) ∧ w4.cell? ⟨g, 4, none⟩ = some (.int .i64 v4) ∧ w4.cell? ⟨g, 5, none⟩ = some (.int .i64 v5) ∧ w4.cell? ⟨g, 6, none⟩ = some (.int .i64 v6) ∧ w4.cell? ⟨g, 7, none⟩ = some (.int .i64 v7) ∧ w4.cell? ⟨g, 8, none⟩ = some (.int .i64 v8) ∧ w4.cell? ⟨g, 9, none⟩ = some (.int .i64 v9) ∧ w4.cell? ⟨g, 10, none⟩ = some (.int .i64 v10) ∧ w4.cell? ⟨g, 11, none⟩ = some (.int .i64 v11) ∧ w4.cell? ⟨g, 12, none⟩ = some (.int .i64 v12)) ∧ Below w3.heap.size w3 w4 := q13_below hq0 (by rw [← hw4]; exact (bel1 _ _).drew)
  have hG4 : w4.heap[w3.heap.size]? = some (.cells #[.int .i64 v1, .int .i64 d, .int .i64 v7, .int .i64 v8, .int .i64 v2, .int .i64 v3, .int .i64 0, .int .i64 v4, .int .i64 v5, .int .i64 v9, .int .i64 v6] 23 (0, 0)) := by rw [← hw4]; exact heap_alloc_new w3 _
  have ht4 : (w3.heap.size < w4.heap.size ∧ w4.cell? ⟨w3.heap.size, 0, none⟩ = some (.int .i64 v1) ∧ w4.cell? ⟨w3.heap.size, 1, none⟩ = some (.int .i64 d) ∧ w4.cell? ⟨w3.heap.size, 2, none⟩ = some (.int .i64 v7) ∧ w4.cell? ⟨w3.heap.size, 3, none⟩ = some (.int .i64 v8) ∧ w4.cell? ⟨w3.heap.size, 4, none⟩ = some (.int .i64 v2) ∧ w4.cell? ⟨w3.heap.size, 5, none⟩ = some (.int .i64 v3) ∧ w4.cell? ⟨w3.heap.size, 6, none⟩ = some (.int .i64 0) ∧ w4.cell? ⟨w3.heap.size, 7, none⟩ = some (.int .i64 v4) ∧ w4.cell? ⟨w3.heap.size, 8, none⟩ = some (.int .i64 v5) ∧ w4.cell? ⟨w3.heap.size, 9, none⟩ = some (.int .i64 v9) ∧ w4.cell? ⟨w3.heap.size, 10, none⟩ = some (.int .i64 v6)) ∧ Below w4.heap.size w4 w4 := ⟨⟨(Array.getElem?_eq_some_iff.1 hG4).1, (cell_of_row _ w3.heap.size 0 _ _ _ hG4).trans rfl, (cell_of_row _ w3.heap.size 1 _ _ _ hG4).trans rfl, (cell_of_row _ w3.heap.size 2 _ _ _ hG4).trans rfl, (cell_of_row _ w3.heap.size 3 _ _ _ hG4).trans rfl, (cell_of_row _ w3.heap.size 4 _ _ _ hG4).trans rfl, (cell_of_row _ w3.heap.size 5 _ _ _ hG4).trans rfl, (cell_of_row _ w3.heap.size 6 _ _ _ hG4).trans rfl, (cell_of_row _ w3.heap.size 7 _ _ _ hG4).trans rfl, (cell_of_row _ w3.heap.size 8 _ _ _ hG4).trans rfl, (cell_of_row _ w3.heap.size 9 _ _ _ hG4).trans rfl, (cell_of_row _ w3.heap.size 10 _ _ _ hG4).trans rfl⟩, Below.refl _ _⟩
  rw [hw4]
  have HW4 := Lib.hid hw4
  clear hw4
  have e10 : IntKind.i64.wrap 11 = 11 := by decide
  have e11 : IntKind.i64.wrap 12 = 12 := by decide
  refine wp_region_held_drew (S := fun w9 => ((g < w9.heap.size ∧ w9.cell? ⟨g, 0, none⟩ = some (.int .i64 d) ∧ w9.cell? ⟨g, 1, none⟩ = some (.int .i64 v1) ∧ w9.cell? ⟨g, 2, none⟩ = some (.int .i64 v2) ∧ w9.cell? ⟨g, 3, none⟩ = some (.int .i64 v3) ∧ w9.cell? ⟨g, 4, none⟩ = some (.int .i64 v4) ∧ w9.cell? ⟨g, 5, none⟩ = some (.int .i64 v5) ∧ w9.cell? ⟨g, 6, none⟩ = some (.int .i64 v6) ∧ w9.cell? ⟨g, 7, none⟩ = some (.int .i64 v7) ∧ w9.cell? ⟨g, 8, none⟩ = some (.int .i64 v8) ∧ w9.cell? ⟨g, 9, none⟩ = some (.int .i64 v9) ∧ w9.cell? ⟨g, 10, none⟩ = some (.int .i64 v10) ∧ w9.cell? ⟨g, 11, none⟩ = some (.int .i64 v11) ∧ w9.cell? ⟨g, 12, none⟩ = some (.int .i64 v12)) ∧ Below w3.heap.size w3 w9) ∧ ((w3.heap.size < w9.heap.size ∧ w9.cell? ⟨w3.heap.size, 0, none⟩ = some (.int .i64 v1) ∧ w9.cell? ⟨w3.heap.size, 1, none⟩ = some (.int .i64 d) ∧ w9.cell? ⟨w3.heap.size, 2, none⟩ = some (.int .i64 v7) ∧ w9.cell? ⟨w3.heap.size, 3, none⟩ = some (.int .i64 v8) ∧ w9.cell? ⟨w3.heap.size, 4, none⟩ = some (.int .i64 v2) ∧ w9.cell? ⟨w3.heap.size, 5, none⟩ = some (.int .i64 v3) ∧ w9.cell? ⟨w3.heap.size, 6, none⟩ = some (.int .i64 0) ∧ w9.cell? ⟨w3.heap.size, 7, none⟩ = some (.int .i64 v4) ∧ w9.cell? ⟨w3.heap.size, 8, none⟩ = some (.int .i64 v5) ∧ w9.cell? ⟨w3.heap.size, 9, none⟩ = some (.int .i64 v9) ∧ w9.cell? ⟨w3.heap.size, 10, none⟩ = some (.int .i64 v6)) ∧ Below w4.heap.size w4 w9)) (by as_aux_lemma => kernel_rfl) ⟨⟨hq4.1, hq4.2.drew⟩, ⟨ht4.1, ht4.2.drew⟩⟩ (fun hHeld => ?_)
  refine wpAnyH_take (i := 0) (oi := ?_) (v := ?_) ?hiu94 (by as_aux_lemma => kernel_rfl) (by as_aux_lemma => kernel_rfl) (by as_aux_lemma => kernel_rfl) ?hQu94 (Or.inl ⟨?hwu94, ?hyu94⟩) hHeld ?restu94
  case hiu94 => simp only [List.getElem?_toArray, List.getElem?_cons_zero, List.getElem?_cons_succ]; rfl
  case hwu94 => rfl
  case hyu94 => (intro w9 hSw; (try dsimp only at hSw); go_simp; (try with_reducible rfl))
  case hQu94 => exact fun _ _ _ h => h
  (try simp only [Act.put, List.setIfInBounds_toArray, List.set_cons_zero, List.set_cons_succ])
  refine wpAnyH_take (i := 1) (oi := ?_) (v := ?_) ?hiu95 (by as_aux_lemma => kernel_rfl) (by as_aux_lemma => kernel_rfl) (by as_aux_lemma => kernel_rfl) ?hQu95 (Or.inl ⟨?hwu95, ?hyu95⟩) hHeld ?restu95
  case hiu95 => simp only [List.getElem?_toArray, List.getElem?_cons_zero, List.getElem?_cons_succ]; rfl
  case hwu95 => rfl
  case hyu95 => (intro w9 hSw; (try dsimp only at hSw); go_simp; (try with_reducible rfl))
  case hQu95 => exact fun _ _ _ h => h
  (try simp only [Act.put, List.setIfInBounds_toArray, List.set_cons_zero, List.set_cons_succ])
  refine wpAnyH_take (i := 2) (oi := ?_) (v := ?_) ?hiu96 (by as_aux_lemma => kernel_rfl) (by as_aux_lemma => kernel_rfl) (by as_aux_lemma => kernel_rfl) ?hQu96 (Or.inl ⟨?hwu96, ?hyu96⟩) hHeld ?restu96
  case hiu96 => simp only [List.getElem?_toArray, List.getElem?_cons_zero, List.getElem?_cons_succ]; rfl
  case hwu96 => rfl
  case hyu96 => (intro w9 hSw; (try dsimp only at hSw); go_simp; (try with_reducible rfl))
  case hQu96 => exact fun _ _ _ h => h
  (try simp only [Act.put, List.setIfInBounds_toArray, List.set_cons_zero, List.set_cons_succ])
  refine wpAnyH_take (i := 3) (oi := ?_) (v := ?_) ?hiu97 (by as_aux_lemma => kernel_rfl) (by as_aux_lemma => kernel_rfl) (by as_aux_lemma => kernel_rfl) ?hQu97 (Or.inl ⟨?hwu97, ?hyu97⟩) hHeld ?restu97
  case hiu97 => simp only [List.getElem?_toArray, List.getElem?_cons_zero, List.getElem?_cons_succ]; rfl
  case hwu97 => rfl
  case hyu97 => (intro w9 hSw; (try dsimp only at hSw); go_simp; (try with_reducible rfl))
  case hQu97 => exact fun _ _ _ h => h
  (try simp only [Act.put, List.setIfInBounds_toArray, List.set_cons_zero, List.set_cons_succ])
  refine wpAnyH_take (i := 4) (oi := ?_) (v := ?_) ?hiu98 (by as_aux_lemma => kernel_rfl) (by as_aux_lemma => kernel_rfl) (by as_aux_lemma => kernel_rfl) ?hQu98 (Or.inl ⟨?hwu98, ?hyu98⟩) hHeld ?restu98
  case hiu98 => simp only [List.getElem?_toArray, List.getElem?_cons_zero, List.getElem?_cons_succ]; rfl
  case hwu98 => rfl
  case hyu98 => (intro w9 hSw; (try dsimp only at hSw); go_simp; (try with_reducible rfl))
  case hQu98 => exact fun _ _ _ h => h
  (try simp only [Act.put, List.setIfInBounds_toArray, List.set_cons_zero, List.set_cons_succ])
  refine wpAnyH_take (i := 5) (oi := ?_) (v := ?_) ?hiu99 (by as_aux_lemma => kernel_rfl) (by as_aux_lemma => kernel_rfl) (by as_aux_lemma => kernel_rfl) ?hQu99 (Or.inl ⟨?hwu99, ?hyu99⟩) hHeld ?restu99
  case hiu99 => simp only [List.getElem?_toArray, List.getElem?_cons_zero, List.getElem?_cons_succ]; rfl
  case hwu99 => rfl
  case hyu99 => (intro w9 hSw; (try dsimp only at hSw); go_simp; (try with_reducible rfl))
  case hQu99 => exact fun _ _ _ h => h
  (try simp only [Act.put, List.setIfInBounds_toArray, List.set_cons_zero, List.set_cons_succ])
  refine wpAnyH_take (i := 6) (oi := ?_) (v := ?_) ?hiu100 (by as_aux_lemma => kernel_rfl) (by as_aux_lemma => kernel_rfl) (by as_aux_lemma => kernel_rfl) ?hQu100 (Or.inl ⟨?hwu100, ?hyu100⟩) hHeld ?restu100
  case hiu100 => simp only [List.getElem?_toArray, List.getElem?_cons_zero, List.getElem?_cons_succ]; rfl
  case hwu100 => rfl
  case hyu100 => (intro w9 hSw; (try dsimp only at hSw); go_simp; (try with_reducible rfl))
  case hQu100 => exact fun _ _ _ h => h
  (try simp only [Act.put, List.setIfInBounds_toArray, List.set_cons_zero, List.set_cons_succ])
  refine wpAnyH_take (i := 7) (oi := ?_) (v := ?_) ?hiu101 (by as_aux_lemma => kernel_rfl) (by as_aux_lemma => kernel_rfl) (by as_aux_lemma => kernel_rfl) ?hQu101 (Or.inl ⟨?hwu101, ?hyu101⟩) hHeld ?restu101
  case hiu101 => simp only [List.getElem?_toArray, List.getElem?_cons_zero, List.getElem?_cons_succ]; rfl
  case hwu101 => rfl
  case hyu101 => (intro w9 hSw; (try dsimp only at hSw); go_simp; (try with_reducible rfl))
  case hQu101 => exact fun _ _ _ h => h
  (try simp only [Act.put, List.setIfInBounds_toArray, List.set_cons_zero, List.set_cons_succ])
  refine wpAnyH_take (i := 8) (oi := ?_) (v := ?_) ?hiu102 (by as_aux_lemma => kernel_rfl) (by as_aux_lemma => kernel_rfl) (by as_aux_lemma => kernel_rfl) ?hQu102 (Or.inl ⟨?hwu102, ?hyu102⟩) hHeld ?restu102
  case hiu102 => simp only [List.getElem?_toArray, List.getElem?_cons_zero, List.getElem?_cons_succ]; rfl
  case hwu102 => rfl
  case hyu102 => (intro w9 hSw; (try dsimp only at hSw); go_simp; (try with_reducible rfl))
  case hQu102 => exact fun _ _ _ h => h
  (try simp only [Act.put, List.setIfInBounds_toArray, List.set_cons_zero, List.set_cons_succ])
  refine wpAnyH_take (i := 9) (oi := ?_) (v := ?_) ?hiu103 (by as_aux_lemma => kernel_rfl) (by as_aux_lemma => kernel_rfl) (by as_aux_lemma => kernel_rfl) ?hQu103 (Or.inl ⟨?hwu103, ?hyu103⟩) hHeld ?restu103
  case hiu103 => simp only [List.getElem?_toArray, List.getElem?_cons_zero, List.getElem?_cons_succ]; rfl
  case hwu103 => rfl
  case hyu103 => (intro w9 hSw; (try dsimp only at hSw); go_simp; (try with_reducible rfl))
  case hQu103 => exact fun _ _ _ h => h
  (try simp only [Act.put, List.setIfInBounds_toArray, List.set_cons_zero, List.set_cons_succ])
  refine wpAnyH_take (i := 10) (oi := ?_) (v := ?_) ?hiu104 (by as_aux_lemma => kernel_rfl) (by as_aux_lemma => kernel_rfl) (by as_aux_lemma => kernel_rfl) ?hQu104 (Or.inl ⟨?hwu104, ?hyu104⟩) hHeld ?restu104
  case hiu104 => simp only [List.getElem?_toArray, List.getElem?_cons_zero, List.getElem?_cons_succ]; rfl
  case hwu104 => rfl
  case hyu104 => (intro w9 hSw; (try dsimp only at hSw); go_simp; (try with_reducible rfl))
  case hQu104 => exact fun _ _ _ h => h
  (try simp only [Act.put, List.setIfInBounds_toArray, List.set_cons_zero, List.set_cons_succ])
  refine wpAnyH_take (i := 11) (oi := ?_) (v := ?_) ?hiu105 (by as_aux_lemma => kernel_rfl) (by as_aux_lemma => kernel_rfl) (by as_aux_lemma => kernel_rfl) ?hQu105 (Or.inl ⟨?hwu105, ?hyu105⟩) hHeld ?restu105
  case hiu105 => simp only [List.getElem?_toArray, List.getElem?_cons_zero, List.getElem?_cons_succ]; rfl
  case hwu105 => rfl
  case hyu105 => (intro w9 hSw; (try dsimp only at hSw); go_simp; (try with_reducible rfl))
  case hQu105 => exact fun _ _ _ h => h
  (try simp only [Act.put, List.setIfInBounds_toArray, List.set_cons_zero, List.set_cons_succ])
  refine wpAnyH_take (i := 12) (oi := ?_) (v := ?_) ?hiu106 (by as_aux_lemma => kernel_rfl) (by as_aux_lemma => kernel_rfl) (by as_aux_lemma => kernel_rfl) ?hQu106 (Or.inl ⟨?hwu106, ?hyu106⟩) hHeld ?restu106
  case hiu106 => simp only [List.getElem?_toArray, List.getElem?_cons_zero, List.getElem?_cons_succ]; rfl
  case hwu106 => rfl
  case hyu106 => (intro w9 hSw; (try dsimp only at hSw); go_simp; (try with_reducible rfl))
  case hQu106 => exact fun _ _ _ h => h
  (try simp only [Act.put, List.setIfInBounds_toArray, List.set_cons_zero, List.set_cons_succ])
  refine wpAnyH_take (i := 13) (oi := ?_) (v := ?_) ?hiu107 (by as_aux_lemma => kernel_rfl) (by as_aux_lemma => kernel_rfl) (by as_aux_lemma => kernel_rfl) ?hQu107 (Or.inl ⟨?hwu107, ?hyu107⟩) hHeld ?restu107
  case hiu107 => simp only [List.getElem?_toArray, List.getElem?_cons_zero, List.getElem?_cons_succ]; rfl
  case hwu107 => rfl
  case hyu107 => (intro w9 hSw; (try dsimp only at hSw); go_simp; (try with_reducible rfl))
  case hQu107 => exact fun _ _ _ h => h
  (try simp only [Act.put, List.setIfInBounds_toArray, List.set_cons_zero, List.set_cons_succ])
  refine wpAnyH_take (i := 14) (oi := ?_) (v := ?_) ?hiu108 (by as_aux_lemma => kernel_rfl) (by as_aux_lemma => kernel_rfl) (by as_aux_lemma => kernel_rfl) ?hQu108 (Or.inl ⟨?hwu108, ?hyu108⟩) hHeld ?restu108
  case hiu108 => simp only [List.getElem?_toArray, List.getElem?_cons_zero, List.getElem?_cons_succ]; rfl
  case hwu108 => rfl
  case hyu108 => (intro w9 hSw; (try dsimp only at hSw); go_simp; (try with_reducible rfl))
  case hQu108 => exact fun _ _ _ h => h
  (try simp only [Act.put, List.setIfInBounds_toArray, List.set_cons_zero, List.set_cons_succ])
  refine wpAnyH_take (i := 15) (oi := ?_) (v := ?_) ?hiu109 (by as_aux_lemma => kernel_rfl) (by as_aux_lemma => kernel_rfl) (by as_aux_lemma => kernel_rfl) ?hQu109 (Or.inl ⟨?hwu109, ?hyu109⟩) hHeld ?restu109
  case hiu109 => simp only [List.getElem?_toArray, List.getElem?_cons_zero, List.getElem?_cons_succ]; rfl
  case hwu109 => rfl
  case hyu109 => (intro w9 hSw; (try dsimp only at hSw); go_simp; (try with_reducible rfl))
  case hQu109 => exact fun _ _ _ h => h
  (try simp only [Act.put, List.setIfInBounds_toArray, List.set_cons_zero, List.set_cons_succ])
  refine wpAnyH_take (i := 16) (oi := ?_) (v := ?_) ?hiu110 (by as_aux_lemma => kernel_rfl) (by as_aux_lemma => kernel_rfl) (by as_aux_lemma => kernel_rfl) ?hQu110 (Or.inl ⟨?hwu110, ?hyu110⟩) hHeld ?restu110
  case hiu110 => simp only [List.getElem?_toArray, List.getElem?_cons_zero, List.getElem?_cons_succ]; rfl
  case hwu110 => rfl
  case hyu110 => (intro w9 hSw; (try dsimp only at hSw); go_simp; (try with_reducible rfl))
  case hQu110 => exact fun _ _ _ h => h
  (try simp only [Act.put, List.setIfInBounds_toArray, List.set_cons_zero, List.set_cons_succ])
  refine wpAnyH_ready (rs := [17]) (by as_aux_lemma => kernel_rfl) (by simp) (AllReadyH.cons (o := ?_) ?hiu111 (fun K hK => ?_) AllReadyH.nil)
  case hiu111 => simp only [List.getElem?_toArray, List.getElem?_cons_zero, List.getElem?_cons_succ]; rfl
  go_simp
  refine hK.out _ _ ?_ (fun hHeld => ?_)
  · exact ⟨q13_below hq4 (bel1 _ _).drew, q11_below ht4 (bel1 _ _).drew⟩
  clear hK K
  (try simp only [Act.put, List.setIfInBounds_toArray, List.set_cons_zero, List.set_cons_succ])
  refine wpAnyH_ready (rs := [18]) (by as_aux_lemma => kernel_rfl) (by simp) (AllReadyH.cons (o := ?_) ?hiu112 (fun K hK => ?_) AllReadyH.nil)
  case hiu112 => simp only [List.getElem?_toArray, List.getElem?_cons_zero, List.getElem?_cons_succ]; rfl
  go_simp
  refine hK.out _ _ ?_ (fun hHeld => ?_)
  · exact ⟨q13_below hq4 (bel1 _ _).drew, q11_below ht4 (bel1 _ _).drew⟩
  clear hK K
  (try simp only [Act.put, List.setIfInBounds_toArray, List.set_cons_zero, List.set_cons_succ])
  refine wpAnyH_done (by as_aux_lemma => kernel_rfl) ?_ _
  clear hHeld
  obtain ⟨w5, hw5⟩ : ∃ w5, (w4.alloc (.cells #[.int .i64 v1, .int .i64 d, .int .i64 v7, .int .i64 v8, .int .i64 v2, .int .i64 v3, .int .i64 0, .int .i64 v4, .int .i64 v5, .int .i64 v9, .int .i64 v6, .int .i64 v12, .int .i64 v10, .int .i64 v11, .int .i64 0] 52)).drew = w5 := ⟨_, rfl⟩
  have hb45 : Below w4.heap.size w4 w5 := by rw [← hw5]; exact (bel1 _ _).drew
  have hq5 := q13_below hq4 hb45
  have ht5 := (q11_below ht4 hb45).1
  have hG5 : w5.heap[w4.heap.size]? = some (.cells #[.int .i64 v1, .int .i64 d, .int .i64 v7, .int .i64 v8, .int .i64 v2, .int .i64 v3, .int .i64 0, .int .i64 v4, .int .i64 v5, .int .i64 v9, .int .i64 v6, .int .i64 v12, .int .i64 v10, .int .i64 v11, .int .i64 0] 52 (0, 0)) := by rw [← hw5]; exact heap_alloc_new w4 _
  have hr5 : (w4.heap.size < w5.heap.size ∧ w5.cell? ⟨w4.heap.size, 0, none⟩ = some (.int .i64 v1) ∧ w5.cell? ⟨w4.heap.size, 1, none⟩ = some (.int .i64 d) ∧ w5.cell? ⟨w4.heap.size, 2, none⟩ = some (.int .i64 v7) ∧ w5.cell? ⟨w4.heap.size, 3, none⟩ = some (.int .i64 v8) ∧ w5.cell? ⟨w4.heap.size, 4, none⟩ = some (.int .i64 v2) ∧ w5.cell? ⟨w4.heap.size, 5, none⟩ = some (.int .i64 v3) ∧ w5.cell? ⟨w4.heap.size, 6, none⟩ = some (.int .i64 0) ∧ w5.cell? ⟨w4.heap.size, 7, none⟩ = some (.int .i64 v4) ∧ w5.cell? ⟨w4.heap.size, 8, none⟩ = some (.int .i64 v5) ∧ w5.cell? ⟨w4.heap.size, 9, none⟩ = some (.int .i64 v9) ∧ w5.cell? ⟨w4.heap.size, 10, none⟩ = some (.int .i64 v6) ∧ w5.cell? ⟨w4.heap.size, 11, none⟩ = some (.int .i64 v12) ∧ w5.cell? ⟨w4.heap.size, 12, none⟩ = some (.int .i64 v10) ∧ w5.cell? ⟨w4.heap.size, 13, none⟩ = some (.int .i64 v11) ∧ w5.cell? ⟨w4.heap.size, 14, none⟩ = some (.int .i64 0)) ∧ Below w5.heap.size w5 w5 := ⟨⟨(Array.getElem?_eq_some_iff.1 hG5).1, (cell_of_row _ w4.heap.size 0 _ _ _ hG5).trans rfl, (cell_of_row _ w4.heap.size 1 _ _ _ hG5).trans rfl, (cell_of_row _ w4.heap.size 2 _ _ _ hG5).trans rfl, (cell_of_row _ w4.heap.size 3 _ _ _ hG5).trans rfl, (cell_of_row _ w4.heap.size 4 _ _ _ hG5).trans rfl, (cell_of_row _ w4.heap.size 5 _ _ _ hG5).trans rfl, (cell_of_row _ w4.heap.size 6 _ _ _ hG5).trans rfl, (cell_of_row _ w4.heap.size 7 _ _ _ hG5).trans rfl, (cell_of_row _ w4.heap.size 8 _ _ _ hG5).trans rfl, (cell_of_row _ w4.heap.size 9 _ _ _ hG5).trans rfl, (cell_of_row _ w4.heap.size 10 _ _ _ hG5).trans rfl, (cell_of_row _ w4.heap.size 11 _ _ _ hG5).trans rfl, (cell_of_row _ w4.heap.size 12 _ _ _ hG5).trans rfl, (cell_of_row _ w4.heap.size 13 _ _ _ hG5).trans rfl, (cell_of_row _ w4.heap.size 14 _ _ _ hG5).trans rfl⟩, Below.refl _ _⟩
  have hgO := (hq5.2.block w.heap.size hz4).trans hg3.out
  have HBr := Lib.hid (bT HB3.out hq5.2)
  have hzr : w.heap.size < w5.heap.size := Nat.lt_of_lt_of_le hz4 hq5.2.size
  rw [hw5]
  have ht5' : (w3.heap.size < w5.heap.size ∧ w5.cell? ⟨w3.heap.size, 0, none⟩ = some (.int .i64 v1) ∧ w5.cell? ⟨w3.heap.size, 1, none⟩ = some (.int .i64 d) ∧ w5.cell? ⟨w3.heap.size, 2, none⟩ = some (.int .i64 v7) ∧ w5.cell? ⟨w3.heap.size, 3, none⟩ = some (.int .i64 v8) ∧ w5.cell? ⟨w3.heap.size, 4, none⟩ = some (.int .i64 v2) ∧ w5.cell? ⟨w3.heap.size, 5, none⟩ = some (.int .i64 v3) ∧ w5.cell? ⟨w3.heap.size, 6, none⟩ = some (.int .i64 0) ∧ w5.cell? ⟨w3.heap.size, 7, none⟩ = some (.int .i64 v4) ∧ w5.cell? ⟨w3.heap.size, 8, none⟩ = some (.int .i64 v5) ∧ w5.cell? ⟨w3.heap.size, 9, none⟩ = some (.int .i64 v9) ∧ w5.cell? ⟨w3.heap.size, 10, none⟩ = some (.int .i64 v6)) ∧ Below w5.heap.size w5 w5 := ⟨ht5, Below.refl _ _⟩
  clear hw5 hG5 hG4 ht4 hq4 hq0 hq5 hb45 HB3 HW4 hgb hgl ht5
  have hz : ∀ W9 : World, Below w5.heap.size w5 W9 → (∀ o, o < 15 → W9.cell? ⟨w.heap.size, o, none⟩ = some (.int .i64 0)) ∧ (∀ o, W9.frozen? ⟨w.heap.size, o, none⟩ = false) ∧ w.heap.size < W9.heap.size ∧ W9.heap[w.heap.size]? = some (.cells #[.int .i64 0, .int .i64 0, .int .i64 0, .int .i64 0, .int .i64 0, .int .i64 0, .int .i64 0, .int .i64 0, .int .i64 0, .int .i64 0, .int .i64 0, .int .i64 0, .int .i64 0, .int .i64 0, .int .i64 0] 52 (0, 0)) ∧ Below w.heap.size w W9 := by
    intro W9 hb
    have hg := (hb.block w.heap.size hzr).trans hgO
    refine ⟨?_, by intro o; simp [World.frozen?, hg], Nat.lt_of_lt_of_le hzr hb.size, hg, bT HBr.out hb⟩
    intro o ho
    rw [cell_of_row _ w.heap.size o _ _ _ hg]
    have : o = 0 ∨ o = 1 ∨ o = 2 ∨ o = 3 ∨ o = 4 ∨ o = 5 ∨ o = 6 ∨ o = 7 ∨ o = 8 ∨ o = 9 ∨ o = 10 ∨ o = 11 ∨ o = 12 ∨ o = 13 ∨ o = 14 := by omega
    rcases this with rfl | rfl | rfl | rfl | rfl | rfl | rfl | rfl | rfl | rfl | rfl | rfl | rfl | rfl | rfl <;> rfl
  have HZ := Lib.hid hz
  clear hz hgO HBr
  cases hT : tkB v1 d v7 v8 v2 v3 0 v4 v5 v9 v6 with
  | false =>
    have E := Lib.hid (show layG L = (zeroC, 9) by rw [HX.out]; simp [okC, hT])
    go_wp2_with (go_at_call 57; (with_reducible refine (refIs_any v1 d v7 v8 v2 v3 0 v4 v5 v9 v6 _).mono ?_); rintro e w6 ⟨rfl, hb6⟩; have hr6 := qr_below hr5 hb6; have ht6 := q11_below ht5' hb6; obtain ⟨hcz, hfz, hzZ, hgZ, hBZ⟩ := HZ.out _ hr6.2; have HGZ := Lib.hid hgZ; have HBZ := Lib.hid hBZ; clear hgZ hBZ)
    exact ⟨rfl, refGetOut (c := zeroC) rfl rfl (row_set (row_set (row_set (row_set (row_set (row_set (row_set (row_set (row_set (row_set (row_set (row_set (row_set (row_set (row_set HGZ.out 0 _) 1 _) 2 _) 3 _) 4 _) 5 _) 6 _) 7 _) 8 _) 9 _) 10 _) 11 _) 12 _) 13 _) 14 _) rfl E.out (by have h := HBZ.out; repeat (first | (with_reducible exact bR _) | (with_reducible refine bT ?_ (by assumption)) | (with_reducible apply bA) | (with_reducible apply bD) | (with_reducible apply bN) | (with_reducible refine bS ?_ (by first | omega | (simp; done) | (simp; omega)))))⟩
  | true =>
  cases hU : suB v9 v10 v11 with
  | false =>
    have E := Lib.hid (show layG L = (zeroC, 9) by rw [HX.out]; simp [okC, hT, hU])
    go_wp2_with (first | (go_at_call 57; (with_reducible refine (refIs_any v1 d v7 v8 v2 v3 0 v4 v5 v9 v6 _).mono ?_); rintro e w6 ⟨rfl, hb6⟩; have hr6 := qr_below hr5 hb6; have ht6 := q11_below ht5' hb6; obtain ⟨hcz, hfz, hzZ, hgZ, hBZ⟩ := HZ.out _ hr6.2; have HGZ := Lib.hid hgZ; have HBZ := Lib.hid hBZ; clear hgZ hBZ) | (go_at_call 51; (with_reducible refine (refSuits_any v1 d v7 v8 v2 v3 0 v4 v5 v9 v6 v10 v11 _).mono ?_); rintro e w7 ⟨rfl, hb7⟩; have hr7 := qr_below hr6 hb7; obtain ⟨hcz, hfz, hzZ, hgZ, hBZ⟩ := HZ.out _ hr7.2; have HGZ := Lib.hid hgZ; have HBZ := Lib.hid hBZ; clear hgZ hBZ))
    exact ⟨rfl, refGetOut (c := zeroC) rfl rfl (row_set (row_set (row_set (row_set (row_set (row_set (row_set (row_set (row_set (row_set (row_set (row_set (row_set (row_set (row_set HGZ.out 0 _) 1 _) 2 _) 3 _) 4 _) 5 _) 6 _) 7 _) 8 _) 9 _) 10 _) 11 _) 12 _) 13 _) 14 _) rfl E.out (by have h := HBZ.out; repeat (first | (with_reducible exact bR _) | (with_reducible refine bT ?_ (by assumption)) | (with_reducible apply bA) | (with_reducible apply bD) | (with_reducible apply bN) | (with_reducible refine bS ?_ (by first | omega | (simp; done) | (simp; omega)))))⟩
  | true =>
    have E := Lib.hid (show layG L = ([v1, d, v7, v8, v2, v3, 0, v4, v5, v9, v6, v12, v10, v11, 0], 0) by rw [HX.out]; simp [okC, hT, hU])
    go_wp2_with (first | (go_at_call 57; (with_reducible refine (refIs_any v1 d v7 v8 v2 v3 0 v4 v5 v9 v6 _).mono ?_); rintro e w6 ⟨rfl, hb6⟩; have hr6 := qr_below hr5 hb6; have ht6 := q11_below ht5' hb6; obtain ⟨hcz, hfz, hzZ, hgZ, hBZ⟩ := HZ.out _ hr6.2; have HGZ := Lib.hid hgZ; have HBZ := Lib.hid hBZ; clear hgZ hBZ) | (go_at_call 51; (with_reducible refine (refSuits_any v1 d v7 v8 v2 v3 0 v4 v5 v9 v6 v10 v11 _).mono ?_); rintro e w7 ⟨rfl, hb7⟩; have hr7 := qr_below hr6 hb7; obtain ⟨hcz, hfz, hzZ, hgZ, hBZ⟩ := HZ.out _ hr7.2; have HGZ := Lib.hid hgZ; have HBZ := Lib.hid hBZ; clear hgZ hBZ))
    exact ⟨rfl, refGetOut (c := [v1, d, v7, v8, v2, v3, 0, v4, v5, v9, v6, v12, v10, v11, 0]) rfl rfl ((set15 _ _ _ _ _ _ _ _ _ _ _ _ _ _ _ HGZ.out).trans rfl) rfl E.out (by have h := HBZ.out; repeat (first | (with_reducible exact bR _) | (with_reducible refine bT ?_ (by assumption)) | (with_reducible apply bA) | (with_reducible apply bD) | (with_reducible apply bN) | (with_reducible refine bS ?_ (by first | omega | (simp; done) | (simp; omega)))))⟩

set_option maxHeartbeats 8000000 in
set_option maxRecDepth 100000 in
theorem refGet_g3 (ad : Addr) (c : Nat) (d : Int) (l' : List Int) (w : World) (hr : RdI w .u8 (some ad) (d :: l')) (hlc : (d :: l').length ≤ c) (hc9 : c ≤ 9223372036854775807) (hb : ∀ x ∈ d :: l', 0 ≤ x ∧ x < 256)
    (hcd : (w.alloc (.cells #[.int .i64 0, .int .i64 0, .int .i64 0, .int .i64 0, .int .i64 0, .int .i64 0, .int .i64 0, .int .i64 0, .int .i64 0, .int .i64 0, .int .i64 0, .int .i64 0, .int .i64 0, .int .i64 0, .int .i64 0] 52)).cell? ad = some (.int .u8 d)) (h9 : ¬ 9 < d) (h8 : wsE d = 0) (h7 : (splitR (d :: l') (wsL d)).2 = 0) (h4 : ¬ d = 4) :
    Calls Try.prog 53 #[.slice (some ad) (d :: l').length c] w (GetRet (layG (d :: l')) w) := by
  have hlt : 0 < (d :: l').length := by simp
  have d0 : (((d :: l').length : Int) == 0) = false := by simp; omega
  have hbd := hb d List.mem_cons_self
  obtain ⟨m, hm⟩ : ∃ m, (d :: l').length = m := ⟨_, rfl⟩
  have hlt2 : 0 < m := by omega
  have d9 : decide (9 < d) = false := by simpa using h9
  have d4 : (d == 4) = false := by simpa using h4
  have H4 := Lib.hid h4
  clear h4
  have hk := wsE_kind h8
  have hwl := wsL_le d
  obtain ⟨L, hL⟩ : ∃ L, d :: l' = L := ⟨_, rfl⟩
  rw [hL] at hr hlc hb hm d0 h7 ⊢
  have HLL := Lib.hid hL
  subst hm
  clear hL
  have hd0 : 0 ≤ d := by omega
  have hd4 : d ≤ 4 := by omega
  go_enter Try.func53, Try.ntmps53
  go_wp2_with fail
  refine (refWidths_any d _).mono ?_
  rintro e w2 ⟨u, rfl, uo, hb2⟩
  obtain ⟨uA, uc, rfl, _, _⟩ := own_slice uo
  have ur := RdI.of_own uo
  have hr2 := (hr.below (bel1 w _)).below hb2
  have hg2 := (hb2.block w.heap.size (by simp)).trans (heap_alloc_new w _)
  have HB2 := Lib.hid (bT (bel1 w _) hb2)
  clear uo hb2
  go_wp2_with fail
  refine (refSplit_any (some ad) uA c uc L (wsL d) _ hr2 ur hlc hc9 (by omega) hb).mono ?_
  rintro e w3 ⟨z, rfl, zo, hb3⟩
  have hz3 : w.heap.size < w2.heap.size := (Array.getElem?_eq_some_iff.1 hg2).1
  have hg3 := Lib.hid ((hb3.block w.heap.size hz3).trans hg2)
  have HB3 := Lib.hid (bT HB2.out hb3)
  clear hg2 hr2 ur
  have hz4 : w.heap.size < w3.heap.size := by have := hb3.size; omega
  clear hb3
  have hvl := splitR_vlen h7
  obtain ⟨ws, hws⟩ := wsL_head (show ¬ d < 1 by omega) (show ¬ 4 < d by omega)
  obtain ⟨V', hV'⟩ := splitR_head (d := d) (l := l') (ws := ws) (by omega) (by rw [← hws, HLL.out]; exact h7)
  rw [← hws, HLL.out] at hV'
  have hE0 : layG L = if okC (cellsOf d (d :: V')) = true then (cellsOf d (d :: V'), 0) else (zeroC, 9) := by
    rw [← HLL.out, layG_cons, HLL.out, if_neg (by omega), if_neg (by simp [h8]), if_neg (by simp [h7]), hV']
  rw [hV'] at zo hvl
  clear hws hV'
  have hl : (wsL d).length = 12 := by have h4 := H4.out; unfold wsL; rw [if_neg (by omega)]; split <;> simp_all
  obtain ⟨v1, v2, v3, v4, v5, v6, v7, v8, v9, v10, v11, rfl⟩ : ∃ v1 v2 v3 v4 v5 v6 v7 v8 v9 v10 v11, V' = [v1, v2, v3, v4, v5, v6, v7, v8, v9, v10, v11] := by
    rw [hl] at hvl
    rcases V' with _ | ⟨v1, _ | ⟨v2, _ | ⟨v3, _ | ⟨v4, _ | ⟨v5, _ | ⟨v6, _ | ⟨v7, _ | ⟨v8, _ | ⟨v9, _ | ⟨v10, _ | ⟨v11, _ | ⟨v12, t⟩⟩⟩⟩⟩⟩⟩⟩⟩⟩⟩⟩ <;> simp at hvl
    exact ⟨_, _, _, _, _, _, _, _, _, _, _, rfl⟩
  obtain ⟨g, cap, rfl, hgl, hgb, hcap⟩ : ∃ g cap, z = .slice (some ⟨g, 0, none⟩) 12 cap ∧ g < w3.heap.size ∧ w2.heap.size ≤ g ∧ 12 ≤ cap := by
    rcases zo.2 with ⟨_, h0⟩ | ⟨g, cap, cur, rfl, hg, hh, hq, _⟩
    · simp at h0
    · exact ⟨g, cap, rfl, (Array.getElem?_eq_some_iff.1 hh).1, by simpa using hg, by simpa using hq⟩
  have hq0 : (g < w3.heap.size ∧ w3.cell? ⟨g, 0, none⟩ = some (.int .i64 d) ∧ w3.cell? ⟨g, 1, none⟩ = some (.int .i64 v1) ∧ w3.cell? ⟨g, 2, none⟩ = some (.int .i64 v2) ∧ w3.cell? ⟨g, 3, none⟩ = some (.int .i64 v3) ∧ w3.cell? ⟨g, 4, none⟩ = some (.int .i64 v4) ∧ w3.cell? ⟨g, 5, none⟩ = some (.int .i64 v5) ∧ w3.cell? ⟨g, 6, none⟩ = some (.int .i64 v6) ∧ w3.cell? ⟨g, 7, none⟩ = some (.int .i64 v7) ∧ w3.cell? ⟨g, 8, none⟩ = some (.int .i64 v8) ∧ w3.cell? ⟨g, 9, none⟩ = some (.int .i64 v9) ∧ w3.cell? ⟨g, 10, none⟩ = some (.int .i64 v10) ∧ w3.cell? ⟨g, 11, none⟩ = some (.int .i64 v11)) ∧ Below w3.heap.size w3 w3 := ⟨⟨hgl, (zo.cellAt 0 (by simp)).trans rfl, (zo.cellAt 1 (by simp)).trans rfl, (zo.cellAt 2 (by simp)).trans rfl, (zo.cellAt 3 (by simp)).trans rfl, (zo.cellAt 4 (by simp)).trans rfl, (zo.cellAt 5 (by simp)).trans rfl, (zo.cellAt 6 (by simp)).trans rfl, (zo.cellAt 7 (by simp)).trans rfl, (zo.cellAt 8 (by simp)).trans rfl, (zo.cellAt 9 (by simp)).trans rfl, (zo.cellAt 10 (by simp)).trans rfl, (zo.cellAt 11 (by simp)).trans rfl⟩, Below.refl _ _⟩
  have hE1 : layG L = if okC [v1, d, v7, v8, v2, v3, 0, v4, v5, (d % 3), v6, v11, v9, v10, 0] = true then ([v1, d, v7, v8, v2, v3, 0, v4, v5, (d % 3), v6, v11, v9, v10, 0], 0) else (zeroC, 9) := by rw [hE0]; unfold cellsOf; rw [if_neg H4.out]; rfl
  have HX := Lib.hid hE1
  clear hE0 hE1 zo hvl hl
  go_wp2_with fail
  refine wp_region_held_drew (S := fun w9 => (g < w9.heap.size ∧ w9.cell? ⟨g, 0, none⟩ = some (.int .i64 d) ∧ w9.cell? ⟨g, 1, none⟩ = some (.int .i64 v1) ∧ w9.cell? ⟨g, 2, none⟩ = some (.int .i64 v2) ∧ w9.cell? ⟨g, 3, none⟩ = some (.int .i64 v3) ∧ w9.cell? ⟨g, 4, none⟩ = some (.int .i64 v4) ∧ w9.cell? ⟨g, 5, none⟩ = some (.int .i64 v5) ∧ w9.cell? ⟨g, 6, none⟩ = some (.int .i64 v6) ∧ w9.cell? ⟨g, 7, none⟩ = some (.int .i64 v7) ∧ w9.cell? ⟨g, 8, none⟩ = some (.int .i64 v8) ∧ w9.cell? ⟨g, 9, none⟩ = some (.int .i64 v9) ∧ w9.cell? ⟨g, 10, none⟩ = some (.int .i64 v10) ∧ w9.cell? ⟨g, 11, none⟩ = some (.int .i64 v11)) ∧ Below w3.heap.size w3 w9) (by as_aux_lemma => kernel_rfl) ⟨hq0.1, hq0.2.drew⟩ (fun hHeld => ?_)
  refine wpAnyH_take (i := 0) (oi := ?_) (v := ?_) ?hiu113 (by as_aux_lemma => kernel_rfl) (by as_aux_lemma => kernel_rfl) (by as_aux_lemma => kernel_rfl) ?hQu113 (Or.inl ⟨?hwu113, ?hyu113⟩) hHeld ?restu113
  case hiu113 => simp only [List.getElem?_toArray, List.getElem?_cons_zero, List.getElem?_cons_succ]; rfl
  case hwu113 => rfl
  case hyu113 => (intro w9 hSw; (try dsimp only at hSw); go_simp; (try with_reducible rfl))
  case hQu113 => exact fun _ _ _ h => h
  (try simp only [Act.put, List.setIfInBounds_toArray, List.set_cons_zero, List.set_cons_succ])
  refine wpAnyH_take (i := 1) (oi := ?_) (v := ?_) ?hiu114 (by as_aux_lemma => kernel_rfl) (by as_aux_lemma => kernel_rfl) (by as_aux_lemma => kernel_rfl) ?hQu114 (Or.inl ⟨?hwu114, ?hyu114⟩) hHeld ?restu114
  case hiu114 => simp only [List.getElem?_toArray, List.getElem?_cons_zero, List.getElem?_cons_succ]; rfl
  case hwu114 => rfl
  case hyu114 => (intro w9 hSw; (try dsimp only at hSw); go_simp; (try with_reducible rfl))
  case hQu114 => exact fun _ _ _ h => h
  (try simp only [Act.put, List.setIfInBounds_toArray, List.set_cons_zero, List.set_cons_succ])
  refine wpAnyH_take (i := 2) (oi := ?_) (v := ?_) ?hiu115 (by as_aux_lemma => kernel_rfl) (by as_aux_lemma => kernel_rfl) (by as_aux_lemma => kernel_rfl) ?hQu115 (Or.inl ⟨?hwu115, ?hyu115⟩) hHeld ?restu115
  case hiu115 => simp only [List.getElem?_toArray, List.getElem?_cons_zero, List.getElem?_cons_succ]; rfl
  case hwu115 => rfl
  case hyu115 => (intro w9 hSw; (try dsimp only at hSw); go_simp; (try with_reducible rfl))
  case hQu115 => exact fun _ _ _ h => h
  (try simp only [Act.put, List.setIfInBounds_toArray, List.set_cons_zero, List.set_cons_succ])
  refine wpAnyH_take (i := 3) (oi := ?_) (v := ?_) ?hiu116 (by as_aux_lemma => kernel_rfl) (by as_aux_lemma => kernel_rfl) (by as_aux_lemma => kernel_rfl) ?hQu116 (Or.inl ⟨?hwu116, ?hyu116⟩) hHeld ?restu116
  case hiu116 => simp only [List.getElem?_toArray, List.getElem?_cons_zero, List.getElem?_cons_succ]; rfl
  case hwu116 => rfl
  case hyu116 => (intro w9 hSw; (try dsimp only at hSw); go_simp; (try with_reducible rfl))
  case hQu116 => exact fun _ _ _ h => h
  (try simp only [Act.put, List.setIfInBounds_toArray, List.set_cons_zero, List.set_cons_succ])
  refine wpAnyH_take (i := 4) (oi := ?_) (v := ?_) ?hiu117 (by as_aux_lemma => kernel_rfl) (by as_aux_lemma => kernel_rfl) (by as_aux_lemma => kernel_rfl) ?hQu117 (Or.inl ⟨?hwu117, ?hyu117⟩) hHeld ?restu117
  case hiu117 => simp only [List.getElem?_toArray, List.getElem?_cons_zero, List.getElem?_cons_succ]; rfl
  case hwu117 => rfl
  case hyu117 => (intro w9 hSw; (try dsimp only at hSw); go_simp; (try with_reducible rfl))
  case hQu117 => exact fun _ _ _ h => h
  (try simp only [Act.put, List.setIfInBounds_toArray, List.set_cons_zero, List.set_cons_succ])
  refine wpAnyH_take (i := 5) (oi := ?_) (v := ?_) ?hiu118 (by as_aux_lemma => kernel_rfl) (by as_aux_lemma => kernel_rfl) (by as_aux_lemma => kernel_rfl) ?hQu118 (Or.inl ⟨?hwu118, ?hyu118⟩) hHeld ?restu118
  case hiu118 => simp only [List.getElem?_toArray, List.getElem?_cons_zero, List.getElem?_cons_succ]; rfl
  case hwu118 => rfl
  case hyu118 => (intro w9 hSw; (try dsimp only at hSw); go_simp; (try with_reducible rfl))
  case hQu118 => exact fun _ _ _ h => h
  (try simp only [Act.put, List.setIfInBounds_toArray, List.set_cons_zero, List.set_cons_succ])
  refine wpAnyH_take (i := 6) (oi := ?_) (v := ?_) ?hiu119 (by as_aux_lemma => kernel_rfl) (by as_aux_lemma => kernel_rfl) (by as_aux_lemma => kernel_rfl) ?hQu119 (Or.inl ⟨?hwu119, ?hyu119⟩) hHeld ?restu119
  case hiu119 => simp only [List.getElem?_toArray, List.getElem?_cons_zero, List.getElem?_cons_succ]; rfl
  case hwu119 => rfl
  case hyu119 => (intro w9 hSw; (try dsimp only at hSw); go_simp; (try with_reducible rfl))
  case hQu119 => exact fun _ _ _ h => h
  (try simp only [Act.put, List.setIfInBounds_toArray, List.set_cons_zero, List.set_cons_succ])
  refine wpAnyH_take (i := 7) (oi := ?_) (v := ?_) ?hiu120 (by as_aux_lemma => kernel_rfl) (by as_aux_lemma => kernel_rfl) (by as_aux_lemma => kernel_rfl) ?hQu120 (Or.inl ⟨?hwu120, ?hyu120⟩) hHeld ?restu120
  case hiu120 => simp only [List.getElem?_toArray, List.getElem?_cons_zero, List.getElem?_cons_succ]; rfl
  case hwu120 => rfl
  case hyu120 => (intro w9 hSw; (try dsimp only at hSw); go_simp; (try with_reducible rfl))
  case hQu120 => exact fun _ _ _ h => h
  (try simp only [Act.put, List.setIfInBounds_toArray, List.set_cons_zero, List.set_cons_succ])
  refine wpAnyH_take (i := 8) (oi := ?_) (v := ?_) ?hiu121 (by as_aux_lemma => kernel_rfl) (by as_aux_lemma => kernel_rfl) (by as_aux_lemma => kernel_rfl) ?hQu121 (Or.inl ⟨?hwu121, ?hyu121⟩) hHeld ?restu121
  case hiu121 => simp only [List.getElem?_toArray, List.getElem?_cons_zero, List.getElem?_cons_succ]; rfl
  case hwu121 => rfl
  case hyu121 => (intro w9 hSw; (try dsimp only at hSw); go_simp; (try with_reducible rfl))
  case hQu121 => exact fun _ _ _ h => h
  (try simp only [Act.put, List.setIfInBounds_toArray, List.set_cons_zero, List.set_cons_succ])
  refine wpAnyH_take (i := 9) (oi := ?_) (v := ?_) ?hiu122 (by as_aux_lemma => kernel_rfl) (by as_aux_lemma => kernel_rfl) (by as_aux_lemma => kernel_rfl) ?hQu122 (Or.inl ⟨?hwu122, ?hyu122⟩) hHeld ?restu122
  case hiu122 => simp only [List.getElem?_toArray, List.getElem?_cons_zero, List.getElem?_cons_succ]; rfl
  case hwu122 => rfl
  case hyu122 => (intro w9 hSw; (try dsimp only at hSw); go_simp; (try with_reducible rfl))
  case hQu122 => exact fun _ _ _ h => h
  (try simp only [Act.put, List.setIfInBounds_toArray, List.set_cons_zero, List.set_cons_succ])
  refine wpAnyH_take (i := 10) (oi := ?_) (v := ?_) ?hiu123 (by as_aux_lemma => kernel_rfl) (by as_aux_lemma => kernel_rfl) (by as_aux_lemma => kernel_rfl) ?hQu123 (Or.inl ⟨?hwu123, ?hyu123⟩) hHeld ?restu123
  case hiu123 => simp only [List.getElem?_toArray, List.getElem?_cons_zero, List.getElem?_cons_succ]; rfl
  case hwu123 => rfl
  case hyu123 => (intro w9 hSw; (try dsimp only at hSw); go_simp; (try with_reducible rfl))
  case hQu123 => exact fun _ _ _ h => h
  (try simp only [Act.put, List.setIfInBounds_toArray, List.set_cons_zero, List.set_cons_succ])
  refine wpAnyH_take (i := 11) (oi := ?_) (v := ?_) ?hiu124 (by as_aux_lemma => kernel_rfl) (by as_aux_lemma => kernel_rfl) (by as_aux_lemma => kernel_rfl) ?hQu124 (Or.inl ⟨?hwu124, ?hyu124⟩) hHeld ?restu124
  case hiu124 => simp only [List.getElem?_toArray, List.getElem?_cons_zero, List.getElem?_cons_succ]; rfl
  case hwu124 => rfl
  case hyu124 => (intro w9 hSw; (try dsimp only at hSw); go_simp; (try with_reducible rfl))
  case hQu124 => exact fun _ _ _ h => h
  (try simp only [Act.put, List.setIfInBounds_toArray, List.set_cons_zero, List.set_cons_succ])
  refine wpAnyH_take (i := 12) (oi := ?_) (v := ?_) ?hiu125 (by as_aux_lemma => kernel_rfl) (by as_aux_lemma => kernel_rfl) (by as_aux_lemma => kernel_rfl) ?hQu125 (Or.inl ⟨?hwu125, ?hyu125⟩) hHeld ?restu125
  case hiu125 => simp only [List.getElem?_toArray, List.getElem?_cons_zero, List.getElem?_cons_succ]; rfl
  case hwu125 => rfl
  case hyu125 => (intro w9 hSw; (try dsimp only at hSw); go_simp; (try with_reducible rfl))
  case hQu125 => exact fun _ _ _ h => h
  (try simp only [Act.put, List.setIfInBounds_toArray, List.set_cons_zero, List.set_cons_succ])
  refine wpAnyH_take (i := 13) (oi := ?_) (v := ?_) ?hiu126 (by as_aux_lemma => kernel_rfl) (by as_aux_lemma => kernel_rfl) (by as_aux_lemma => kernel_rfl) ?hQu126 (Or.inl ⟨?hwu126, ?hyu126⟩) hHeld ?restu126
  case hiu126 => simp only [List.getElem?_toArray, List.getElem?_cons_zero, List.getElem?_cons_succ]; rfl
  case hwu126 => rfl
  case hyu126 => (intro w9 hSw; (try dsimp only at hSw); go_simp; (try with_reducible rfl))
  case hQu126 => exact fun _ _ _ h => h
  (try simp only [Act.put, List.setIfInBounds_toArray, List.set_cons_zero, List.set_cons_succ])
  refine wpAnyH_take (i := 14) (oi := ?_) (v := ?_) ?hiu127 (by as_aux_lemma => kernel_rfl) (by as_aux_lemma => kernel_rfl) (by as_aux_lemma => kernel_rfl) ?hQu127 (Or.inl ⟨?hwu127, ?hyu127⟩) hHeld ?restu127
  case hiu127 => simp only [List.getElem?_toArray, List.getElem?_cons_zero, List.getElem?_cons_succ]; rfl
  case hwu127 => rfl
  case hyu127 => (intro w9 hSw; (try dsimp only at hSw); go_simp; (try with_reducible rfl))
  case hQu127 => exact fun _ _ _ h => h
  (try simp only [Act.put, List.setIfInBounds_toArray, List.set_cons_zero, List.set_cons_succ])
  refine wpAnyH_take (i := 15) (oi := ?_) (v := ?_) ?hiu128 (by as_aux_lemma => kernel_rfl) (by as_aux_lemma => kernel_rfl) (by as_aux_lemma => kernel_rfl) ?hQu128 (Or.inl ⟨?hwu128, ?hyu128⟩) hHeld ?restu128
  case hiu128 => simp only [List.getElem?_toArray, List.getElem?_cons_zero, List.getElem?_cons_succ]; rfl
  case hwu128 => rfl
  case hyu128 => (intro w9 hSw; (try dsimp only at hSw); go_simp; (try with_reducible rfl))
  case hQu128 => exact fun _ _ _ h => h
  (try simp only [Act.put, List.setIfInBounds_toArray, List.set_cons_zero, List.set_cons_succ])
  refine wpAnyH_take (i := 16) (oi := ?_) (v := ?_) ?hiu129 (by as_aux_lemma => kernel_rfl) (by as_aux_lemma => kernel_rfl) (by as_aux_lemma => kernel_rfl) ?hQu129 (Or.inl ⟨?hwu129, ?hyu129⟩) hHeld ?restu129
  case hiu129 => simp only [List.getElem?_toArray, List.getElem?_cons_zero, List.getElem?_cons_succ]; rfl
  case hwu129 => rfl
  case hyu129 => (intro w9 hSw; (try dsimp only at hSw); go_simp; (try with_reducible rfl))
  case hQu129 => exact fun _ _ _ h => h
  (try simp only [Act.put, List.setIfInBounds_toArray, List.set_cons_zero, List.set_cons_succ])
  refine wpAnyH_take (i := 17) (oi := ?_) (v := ?_) ?hiu130 (by as_aux_lemma => kernel_rfl) (by as_aux_lemma => kernel_rfl) (by as_aux_lemma => kernel_rfl) ?hQu130 (Or.inl ⟨?hwu130, ?hyu130⟩) hHeld ?restu130
  case hiu130 => simp only [List.getElem?_toArray, List.getElem?_cons_zero, List.getElem?_cons_succ]; rfl
  case hwu130 => rfl
  case hyu130 => (intro w9 hSw; (try dsimp only at hSw); go_simp; (try with_reducible rfl))
  case hQu130 => exact fun _ _ _ h => h
  (try simp only [Act.put, List.setIfInBounds_toArray, List.set_cons_zero, List.set_cons_succ])
  refine wpAnyH_take (i := 18) (oi := ?_) (v := ?_) ?hiu131 (by as_aux_lemma => kernel_rfl) (by as_aux_lemma => kernel_rfl) (by as_aux_lemma => kernel_rfl) ?hQu131 (Or.inl ⟨?hwu131, ?hyu131⟩) hHeld ?restu131
  case hiu131 => simp only [List.getElem?_toArray, List.getElem?_cons_zero, List.getElem?_cons_succ]; rfl
  case hwu131 => rfl
  case hyu131 => (intro w9 hSw; (try dsimp only at hSw); go_simp; (try with_reducible rfl))
  case hQu131 => exact fun _ _ _ h => h
  (try simp only [Act.put, List.setIfInBounds_toArray, List.set_cons_zero, List.set_cons_succ])
  refine wpAnyH_take (i := 19) (oi := ?_) (v := ?_) ?hiu132 (by as_aux_lemma => kernel_rfl) (by as_aux_lemma => kernel_rfl) (by as_aux_lemma => kernel_rfl) ?hQu132 (Or.inl ⟨?hwu132, ?hyu132⟩) hHeld ?restu132
  case hiu132 => simp only [List.getElem?_toArray, List.getElem?_cons_zero, List.getElem?_cons_succ]; rfl
  case hwu132 => rfl
  case hyu132 => (intro w9 hSw; (try dsimp only at hSw); go_simp; (try with_reducible rfl))
  case hQu132 => exact fun _ _ _ h => h
  (try simp only [Act.put, List.setIfInBounds_toArray, List.set_cons_zero, List.set_cons_succ])
  refine wpAnyH_take (i := 20) (oi := ?_) (v := ?_) ?hiu133 (by as_aux_lemma => kernel_rfl) (by as_aux_lemma => kernel_rfl) (by as_aux_lemma => kernel_rfl) ?hQu133 (Or.inl ⟨?hwu133, ?hyu133⟩) hHeld ?restu133
  case hiu133 => simp only [List.getElem?_toArray, List.getElem?_cons_zero, List.getElem?_cons_succ]; rfl
  case hwu133 => rfl
  case hyu133 => (intro w9 hSw; (try dsimp only at hSw); go_simp; (try with_reducible rfl))
  case hQu133 => exact fun _ _ _ h => h
  (try simp only [Act.put, List.setIfInBounds_toArray, List.set_cons_zero, List.set_cons_succ])
  refine wpAnyH_take (i := 21) (oi := ?_) (v := ?_) ?hiu134 (by as_aux_lemma => kernel_rfl) (by as_aux_lemma => kernel_rfl) (by as_aux_lemma => kernel_rfl) ?hQu134 (Or.inl ⟨?hwu134, ?hyu134⟩) hHeld ?restu134
  case hiu134 => simp only [List.getElem?_toArray, List.getElem?_cons_zero, List.getElem?_cons_succ]; rfl
  case hwu134 => rfl
  case hyu134 => (intro w9 hSw; (try dsimp only at hSw); go_simp; (try with_reducible rfl))
  case hQu134 => exact fun _ _ _ h => h
  (try simp only [Act.put, List.setIfInBounds_toArray, List.set_cons_zero, List.set_cons_succ])
  refine wpAnyH_take (i := 22) (oi := ?_) (v := ?_) ?hiu135 (by as_aux_lemma => kernel_rfl) (by as_aux_lemma => kernel_rfl) (by as_aux_lemma => kernel_rfl) ?hQu135 (Or.inl ⟨?hwu135, ?hyu135⟩) hHeld ?restu135
  case hiu135 => simp only [List.getElem?_toArray, List.getElem?_cons_zero, List.getElem?_cons_succ]; rfl
  case hwu135 => rfl
  case hyu135 => (intro w9 hSw; (try dsimp only at hSw); go_simp; (try with_reducible rfl))
  case hQu135 => exact fun _ _ _ h => h
  (try simp only [Act.put, List.setIfInBounds_toArray, List.set_cons_zero, List.set_cons_succ])
  refine wpAnyH_take (i := 23) (oi := ?_) (v := ?_) ?hiu136 (by as_aux_lemma => kernel_rfl) (by as_aux_lemma => kernel_rfl) (by as_aux_lemma => kernel_rfl) ?hQu136 (Or.inl ⟨?hwu136, ?hyu136⟩) hHeld ?restu136
  case hiu136 => simp only [List.getElem?_toArray, List.getElem?_cons_zero, List.getElem?_cons_succ]; rfl
  case hwu136 => rfl
  case hyu136 => (intro w9 hSw; (try dsimp only at hSw); go_simp; (try with_reducible rfl))
  case hQu136 => exact fun _ _ _ h => h
  (try simp only [Act.put, List.setIfInBounds_toArray, List.set_cons_zero, List.set_cons_succ])
  refine wpAnyH_take (i := 24) (oi := ?_) (v := ?_) ?hiu137 (by as_aux_lemma => kernel_rfl) (by as_aux_lemma => kernel_rfl) (by as_aux_lemma => kernel_rfl) ?hQu137 (Or.inl ⟨?hwu137, ?hyu137⟩) hHeld ?restu137
  case hiu137 => simp only [List.getElem?_toArray, List.getElem?_cons_zero, List.getElem?_cons_succ]; rfl
  case hwu137 => rfl
  case hyu137 => (intro w9 hSw; (try dsimp only at hSw); go_simp; (try with_reducible rfl))
  case hQu137 => exact fun _ _ _ h => h
  (try simp only [Act.put, List.setIfInBounds_toArray, List.set_cons_zero, List.set_cons_succ])
  refine wpAnyH_take (i := 25) (oi := ?_) (v := ?_) ?hiu138 (by as_aux_lemma => kernel_rfl) (by as_aux_lemma => kernel_rfl) (by as_aux_lemma => kernel_rfl) ?hQu138 (Or.inl ⟨?hwu138, ?hyu138⟩) hHeld ?restu138
  case hiu138 => simp only [List.getElem?_toArray, List.getElem?_cons_zero, List.getElem?_cons_succ]; rfl
  case hwu138 => rfl
  case hyu138 => (intro w9 hSw; (try dsimp only at hSw); go_simp; (try with_reducible rfl))
  case hQu138 => exact fun _ _ _ h => h
  (try simp only [Act.put, List.setIfInBounds_toArray, List.set_cons_zero, List.set_cons_succ])
  refine wpAnyH_take (i := 26) (oi := ?_) (v := ?_) ?hiu139 (by as_aux_lemma => kernel_rfl) (by as_aux_lemma => kernel_rfl) (by as_aux_lemma => kernel_rfl) ?hQu139 (Or.inl ⟨?hwu139, ?hyu139⟩) hHeld ?restu139
  case hiu139 => simp only [List.getElem?_toArray, List.getElem?_cons_zero, List.getElem?_cons_succ]; rfl
  case hwu139 => rfl
  case hyu139 => (intro w9 hSw; (try dsimp only at hSw); go_simp; (try with_reducible rfl))
  case hQu139 => exact fun _ _ _ h => h
  (try simp only [Act.put, List.setIfInBounds_toArray, List.set_cons_zero, List.set_cons_succ])
  refine wpAnyH_take (i := 27) (oi := ?_) (v := ?_) ?hiu140 (by as_aux_lemma => kernel_rfl) (by as_aux_lemma => kernel_rfl) (by as_aux_lemma => kernel_rfl) ?hQu140 (Or.inl ⟨?hwu140, ?hyu140⟩) hHeld ?restu140
  case hiu140 => simp only [List.getElem?_toArray, List.getElem?_cons_zero, List.getElem?_cons_succ]; rfl
  case hwu140 => rfl
  case hyu140 => (intro w9 hSw; (try dsimp only at hSw); go_simp; (try with_reducible rfl))
  case hQu140 => exact fun _ _ _ h => h
  (try simp only [Act.put, List.setIfInBounds_toArray, List.set_cons_zero, List.set_cons_succ])
  refine wpAnyH_ready (rs := [28]) (by as_aux_lemma => kernel_rfl) (by simp) (AllReadyH.cons (o := ?_) ?hiu141 (fun K hK => ?_) AllReadyH.nil)
  case hiu141 => simp only [List.getElem?_toArray, List.getElem?_cons_zero, List.getElem?_cons_succ]; rfl
  go_simp
  refine hK.out _ _ ?_ (fun hHeld => ?_)
  · exact q12_below hq0 (bel1 _ _).drew
  clear hK K
  (try simp only [Act.put, List.setIfInBounds_toArray, List.set_cons_zero, List.set_cons_succ])
  refine wpAnyH_ready (rs := [29]) (by as_aux_lemma => kernel_rfl) (by simp) (AllReadyH.cons (o := ?_) ?hiu142 (fun K hK => ?_) AllReadyH.nil)
  case hiu142 => simp only [List.getElem?_toArray, List.getElem?_cons_zero, List.getElem?_cons_succ]; rfl
  go_simp
  refine hK.out _ _ ?_ (fun hHeld => ?_)
  · exact q12_below hq0 (bel1 _ _).drew
  clear hK K
  (try simp only [Act.put, List.setIfInBounds_toArray, List.set_cons_zero, List.set_cons_succ])
  refine wpAnyH_done (by as_aux_lemma => kernel_rfl) ?_ _
  go_wp2
  clear hHeld
  obtain ⟨w4, hw4⟩ : ∃ w4, (w3.alloc (.cells #[.int .i64 v1, .int .i64 d, .int .i64 v7, .int .i64 v8, .int .i64 v2, .int .i64 v3, .int .i64 0, .int .i64 v4, .int .i64 v5, .int .i64 (d % 3), .int .i64 v6] 23)).drew = w4 := ⟨_, rfl⟩
  have hq4 : (g < w4.heap.size ∧ w4.cell? ⟨g, 0, none⟩ = some (.int .i64 d) ∧ w4.cell? ⟨g, 1, none⟩ = some (.int .i64 v1) ∧ w4.cell? ⟨g, 2, none⟩ = some (.int .i64 v2) ∧ w4.cell? ⟨g, 3, none⟩ = some (.int .i64 v3) ∧ w4.cell? ⟨g, 4, none⟩ = some (.int .i64 v4) ∧ w4.cell? ⟨g, 5, none⟩ = some (.int .i64 v5) ∧ w4.cell? ⟨g, 6, none⟩ = some (.int .i64 v6) ∧ w4.cell? ⟨g, 7, none⟩ = some (.int .i64 v7) ∧ w4.cell? ⟨g, 8, none⟩ = some (.int .i64 v8) ∧ w4.cell? ⟨g, 9, none⟩ = some (.int .i64 v9) ∧ w4.cell? ⟨g, 10, none⟩ = some (.int .i64 v10) ∧ w4.cell? ⟨g, 11, none⟩ = some (.int .i64 v11)) ∧ Below w3.heap.size w3 w4 := q12_below hq0 (by rw [← hw4]; exact (bel1 _ _).drew)
  have hG4 : w4.heap[w3.heap.size]? = some (.cells #[.int .i64 v1, .int .i64 d, .int .i64 v7, .int .i64 v8, .int .i64 v2, .int .i64 v3, .int .i64 0, .int .i64 v4, .int .i64 v5, .int .i64 (d % 3), .int .i64 v6] 23 (0, 0)) := by rw [← hw4]; exact heap_alloc_new w3 _
  have ht4 : (w3.heap.size < w4.heap.size ∧ w4.cell? ⟨w3.heap.size, 0, none⟩ = some (.int .i64 v1) ∧ w4.cell? ⟨w3.heap.size, 1, none⟩ = some (.int .i64 d) ∧ w4.cell? ⟨w3.heap.size, 2, none⟩ = some (.int .i64 v7) ∧ w4.cell? ⟨w3.heap.size, 3, none⟩ = some (.int .i64 v8) ∧ w4.cell? ⟨w3.heap.size, 4, none⟩ = some (.int .i64 v2) ∧ w4.cell? ⟨w3.heap.size, 5, none⟩ = some (.int .i64 v3) ∧ w4.cell? ⟨w3.heap.size, 6, none⟩ = some (.int .i64 0) ∧ w4.cell? ⟨w3.heap.size, 7, none⟩ = some (.int .i64 v4) ∧ w4.cell? ⟨w3.heap.size, 8, none⟩ = some (.int .i64 v5) ∧ w4.cell? ⟨w3.heap.size, 9, none⟩ = some (.int .i64 (d % 3)) ∧ w4.cell? ⟨w3.heap.size, 10, none⟩ = some (.int .i64 v6)) ∧ Below w4.heap.size w4 w4 := ⟨⟨(Array.getElem?_eq_some_iff.1 hG4).1, (cell_of_row _ w3.heap.size 0 _ _ _ hG4).trans rfl, (cell_of_row _ w3.heap.size 1 _ _ _ hG4).trans rfl, (cell_of_row _ w3.heap.size 2 _ _ _ hG4).trans rfl, (cell_of_row _ w3.heap.size 3 _ _ _ hG4).trans rfl, (cell_of_row _ w3.heap.size 4 _ _ _ hG4).trans rfl, (cell_of_row _ w3.heap.size 5 _ _ _ hG4).trans rfl, (cell_of_row _ w3.heap.size 6 _ _ _ hG4).trans rfl, (cell_of_row _ w3.heap.size 7 _ _ _ hG4).trans rfl, (cell_of_row _ w3.heap.size 8 _ _ _ hG4).trans rfl, (cell_of_row _ w3.heap.size 9 _ _ _ hG4).trans rfl, (cell_of_row _ w3.heap.size 10 _ _ _ hG4).trans rfl⟩, Below.refl _ _⟩
  rw [hw4]
  have HW4 := Lib.hid hw4
  clear hw4
  have e10 : IntKind.i64.wrap 10 = 10 := by decide
  have e11 : IntKind.i64.wrap 11 = 11 := by decide
  refine wp_region_held_drew (S := fun w9 => ((g < w9.heap.size ∧ w9.cell? ⟨g, 0, none⟩ = some (.int .i64 d) ∧ w9.cell? ⟨g, 1, none⟩ = some (.int .i64 v1) ∧ w9.cell? ⟨g, 2, none⟩ = some (.int .i64 v2) ∧ w9.cell? ⟨g, 3, none⟩ = some (.int .i64 v3) ∧ w9.cell? ⟨g, 4, none⟩ = some (.int .i64 v4) ∧ w9.cell? ⟨g, 5, none⟩ = some (.int .i64 v5) ∧ w9.cell? ⟨g, 6, none⟩ = some (.int .i64 v6) ∧ w9.cell? ⟨g, 7, none⟩ = some (.int .i64 v7) ∧ w9.cell? ⟨g, 8, none⟩ = some (.int .i64 v8) ∧ w9.cell? ⟨g, 9, none⟩ = some (.int .i64 v9) ∧ w9.cell? ⟨g, 10, none⟩ = some (.int .i64 v10) ∧ w9.cell? ⟨g, 11, none⟩ = some (.int .i64 v11)) ∧ Below w3.heap.size w3 w9) ∧ ((w3.heap.size < w9.heap.size ∧ w9.cell? ⟨w3.heap.size, 0, none⟩ = some (.int .i64 v1) ∧ w9.cell? ⟨w3.heap.size, 1, none⟩ = some (.int .i64 d) ∧ w9.cell? ⟨w3.heap.size, 2, none⟩ = some (.int .i64 v7) ∧ w9.cell? ⟨w3.heap.size, 3, none⟩ = some (.int .i64 v8) ∧ w9.cell? ⟨w3.heap.size, 4, none⟩ = some (.int .i64 v2) ∧ w9.cell? ⟨w3.heap.size, 5, none⟩ = some (.int .i64 v3) ∧ w9.cell? ⟨w3.heap.size, 6, none⟩ = some (.int .i64 0) ∧ w9.cell? ⟨w3.heap.size, 7, none⟩ = some (.int .i64 v4) ∧ w9.cell? ⟨w3.heap.size, 8, none⟩ = some (.int .i64 v5) ∧ w9.cell? ⟨w3.heap.size, 9, none⟩ = some (.int .i64 (d % 3)) ∧ w9.cell? ⟨w3.heap.size, 10, none⟩ = some (.int .i64 v6)) ∧ Below w4.heap.size w4 w9)) (by as_aux_lemma => kernel_rfl) ⟨⟨hq4.1, hq4.2.drew⟩, ⟨ht4.1, ht4.2.drew⟩⟩ (fun hHeld => ?_)
  refine wpAnyH_take (i := 0) (oi := ?_) (v := ?_) ?hiu143 (by as_aux_lemma => kernel_rfl) (by as_aux_lemma => kernel_rfl) (by as_aux_lemma => kernel_rfl) ?hQu143 (Or.inl ⟨?hwu143, ?hyu143⟩) hHeld ?restu143
  case hiu143 => simp only [List.getElem?_toArray, List.getElem?_cons_zero, List.getElem?_cons_succ]; rfl
  case hwu143 => rfl
  case hyu143 => (intro w9 hSw; (try dsimp only at hSw); go_simp; (try with_reducible rfl))
  case hQu143 => exact fun _ _ _ h => h
  (try simp only [Act.put, List.setIfInBounds_toArray, List.set_cons_zero, List.set_cons_succ])
  refine wpAnyH_take (i := 1) (oi := ?_) (v := ?_) ?hiu144 (by as_aux_lemma => kernel_rfl) (by as_aux_lemma => kernel_rfl) (by as_aux_lemma => kernel_rfl) ?hQu144 (Or.inl ⟨?hwu144, ?hyu144⟩) hHeld ?restu144
  case hiu144 => simp only [List.getElem?_toArray, List.getElem?_cons_zero, List.getElem?_cons_succ]; rfl
  case hwu144 => rfl
  case hyu144 => (intro w9 hSw; (try dsimp only at hSw); go_simp; (try with_reducible rfl))
  case hQu144 => exact fun _ _ _ h => h
  (try simp only [Act.put, List.setIfInBounds_toArray, List.set_cons_zero, List.set_cons_succ])
  refine wpAnyH_take (i := 2) (oi := ?_) (v := ?_) ?hiu145 (by as_aux_lemma => kernel_rfl) (by as_aux_lemma => kernel_rfl) (by as_aux_lemma => kernel_rfl) ?hQu145 (Or.inl ⟨?hwu145, ?hyu145⟩) hHeld ?restu145
  case hiu145 => simp only [List.getElem?_toArray, List.getElem?_cons_zero, List.getElem?_cons_succ]; rfl
  case hwu145 => rfl
  case hyu145 => (intro w9 hSw; (try dsimp only at hSw); go_simp; (try with_reducible rfl))
  case hQu145 => exact fun _ _ _ h => h
  (try simp only [Act.put, List.setIfInBounds_toArray, List.set_cons_zero, List.set_cons_succ])
  refine wpAnyH_take (i := 3) (oi := ?_) (v := ?_) ?hiu146 (by as_aux_lemma => kernel_rfl) (by as_aux_lemma => kernel_rfl) (by as_aux_lemma => kernel_rfl) ?hQu146 (Or.inl ⟨?hwu146, ?hyu146⟩) hHeld ?restu146
  case hiu146 => simp only [List.getElem?_toArray, List.getElem?_cons_zero, List.getElem?_cons_succ]; rfl
  case hwu146 => rfl
  case hyu146 => (intro w9 hSw; (try dsimp only at hSw); go_simp; (try with_reducible rfl))
  case hQu146 => exact fun _ _ _ h => h
  (try simp only [Act.put, List.setIfInBounds_toArray, List.set_cons_zero, List.set_cons_succ])
  refine wpAnyH_take (i := 4) (oi := ?_) (v := ?_) ?hiu147 (by as_aux_lemma => kernel_rfl) (by as_aux_lemma => kernel_rfl) (by as_aux_lemma => kernel_rfl) ?hQu147 (Or.inl ⟨?hwu147, ?hyu147⟩) hHeld ?restu147
  case hiu147 => simp only [List.getElem?_toArray, List.getElem?_cons_zero, List.getElem?_cons_succ]; rfl
  case hwu147 => rfl
  case hyu147 => (intro w9 hSw; (try dsimp only at hSw); go_simp; (try with_reducible rfl))
  case hQu147 => exact fun _ _ _ h => h
  (try simp only [Act.put, List.setIfInBounds_toArray, List.set_cons_zero, List.set_cons_succ])
  refine wpAnyH_take (i := 5) (oi := ?_) (v := ?_) ?hiu148 (by as_aux_lemma => kernel_rfl) (by as_aux_lemma => kernel_rfl) (by as_aux_lemma => kernel_rfl) ?hQu148 (Or.inl ⟨?hwu148, ?hyu148⟩) hHeld ?restu148
  case hiu148 => simp only [List.getElem?_toArray, List.getElem?_cons_zero, List.getElem?_cons_succ]; rfl
  case hwu148 => rfl
  case hyu148 => (intro w9 hSw; (try dsimp only at hSw); go_simp; (try with_reducible rfl))
  case hQu148 => exact fun _ _ _ h => h
  (try simp only [Act.put, List.setIfInBounds_toArray, List.set_cons_zero, List.set_cons_succ])
  refine wpAnyH_take (i := 6) (oi := ?_) (v := ?_) ?hiu149 (by as_aux_lemma => kernel_rfl) (by as_aux_lemma => kernel_rfl) (by as_aux_lemma => kernel_rfl) ?hQu149 (Or.inl ⟨?hwu149, ?hyu149⟩) hHeld ?restu149
  case hiu149 => simp only [List.getElem?_toArray, List.getElem?_cons_zero, List.getElem?_cons_succ]; rfl
  case hwu149 => rfl
  case hyu149 => (intro w9 hSw; (try dsimp only at hSw); go_simp; (try with_reducible rfl))
  case hQu149 => exact fun _ _ _ h => h
  (try simp only [Act.put, List.setIfInBounds_toArray, List.set_cons_zero, List.set_cons_succ])
  refine wpAnyH_take (i := 7) (oi := ?_) (v := ?_) ?hiu150 (by as_aux_lemma => kernel_rfl) (by as_aux_lemma => kernel_rfl) (by as_aux_lemma => kernel_rfl) ?hQu150 (Or.inl ⟨?hwu150, ?hyu150⟩) hHeld ?restu150
  case hiu150 => simp only [List.getElem?_toArray, List.getElem?_cons_zero, List.getElem?_cons_succ]; rfl
  case hwu150 => rfl
  case hyu150 => (intro w9 hSw; (try dsimp only at hSw); go_simp; (try with_reducible rfl))
  case hQu150 => exact fun _ _ _ h => h
  (try simp only [Act.put, List.setIfInBounds_toArray, List.set_cons_zero, List.set_cons_succ])
  refine wpAnyH_take (i := 8) (oi := ?_) (v := ?_) ?hiu151 (by as_aux_lemma => kernel_rfl) (by as_aux_lemma => kernel_rfl) (by as_aux_lemma => kernel_rfl) ?hQu151 (Or.inl ⟨?hwu151, ?hyu151⟩) hHeld ?restu151
  case hiu151 => simp only [List.getElem?_toArray, List.getElem?_cons_zero, List.getElem?_cons_succ]; rfl
  case hwu151 => rfl
  case hyu151 => (intro w9 hSw; (try dsimp only at hSw); go_simp; (try with_reducible rfl))
  case hQu151 => exact fun _ _ _ h => h
  (try simp only [Act.put, List.setIfInBounds_toArray, List.set_cons_zero, List.set_cons_succ])
  refine wpAnyH_take (i := 9) (oi := ?_) (v := ?_) ?hiu152 (by as_aux_lemma => kernel_rfl) (by as_aux_lemma => kernel_rfl) (by as_aux_lemma => kernel_rfl) ?hQu152 (Or.inl ⟨?hwu152, ?hyu152⟩) hHeld ?restu152
  case hiu152 => simp only [List.getElem?_toArray, List.getElem?_cons_zero, List.getElem?_cons_succ]; rfl
  case hwu152 => rfl
  case hyu152 => (intro w9 hSw; (try dsimp only at hSw); go_simp; (try with_reducible rfl))
  case hQu152 => exact fun _ _ _ h => h
  (try simp only [Act.put, List.setIfInBounds_toArray, List.set_cons_zero, List.set_cons_succ])
  refine wpAnyH_take (i := 10) (oi := ?_) (v := ?_) ?hiu153 (by as_aux_lemma => kernel_rfl) (by as_aux_lemma => kernel_rfl) (by as_aux_lemma => kernel_rfl) ?hQu153 (Or.inl ⟨?hwu153, ?hyu153⟩) hHeld ?restu153
  case hiu153 => simp only [List.getElem?_toArray, List.getElem?_cons_zero, List.getElem?_cons_succ]; rfl
  case hwu153 => rfl
  case hyu153 => (intro w9 hSw; (try dsimp only at hSw); go_simp; (try with_reducible rfl))
  case hQu153 => exact fun _ _ _ h => h
  (try simp only [Act.put, List.setIfInBounds_toArray, List.set_cons_zero, List.set_cons_succ])
  refine wpAnyH_take (i := 11) (oi := ?_) (v := ?_) ?hiu154 (by as_aux_lemma => kernel_rfl) (by as_aux_lemma => kernel_rfl) (by as_aux_lemma => kernel_rfl) ?hQu154 (Or.inl ⟨?hwu154, ?hyu154⟩) hHeld ?restu154
  case hiu154 => simp only [List.getElem?_toArray, List.getElem?_cons_zero, List.getElem?_cons_succ]; rfl
  case hwu154 => rfl
  case hyu154 => (intro w9 hSw; (try dsimp only at hSw); go_simp; (try with_reducible rfl))
  case hQu154 => exact fun _ _ _ h => h
  (try simp only [Act.put, List.setIfInBounds_toArray, List.set_cons_zero, List.set_cons_succ])
  refine wpAnyH_take (i := 12) (oi := ?_) (v := ?_) ?hiu155 (by as_aux_lemma => kernel_rfl) (by as_aux_lemma => kernel_rfl) (by as_aux_lemma => kernel_rfl) ?hQu155 (Or.inl ⟨?hwu155, ?hyu155⟩) hHeld ?restu155
  case hiu155 => simp only [List.getElem?_toArray, List.getElem?_cons_zero, List.getElem?_cons_succ]; rfl
  case hwu155 => rfl
  case hyu155 => (intro w9 hSw; (try dsimp only at hSw); go_simp; (try with_reducible rfl))
  case hQu155 => exact fun _ _ _ h => h
  (try simp only [Act.put, List.setIfInBounds_toArray, List.set_cons_zero, List.set_cons_succ])
  refine wpAnyH_take (i := 13) (oi := ?_) (v := ?_) ?hiu156 (by as_aux_lemma => kernel_rfl) (by as_aux_lemma => kernel_rfl) (by as_aux_lemma => kernel_rfl) ?hQu156 (Or.inl ⟨?hwu156, ?hyu156⟩) hHeld ?restu156
  case hiu156 => simp only [List.getElem?_toArray, List.getElem?_cons_zero, List.getElem?_cons_succ]; rfl
  case hwu156 => rfl
  case hyu156 => (intro w9 hSw; (try dsimp only at hSw); go_simp; (try with_reducible rfl))
  case hQu156 => exact fun _ _ _ h => h
  (try simp only [Act.put, List.setIfInBounds_toArray, List.set_cons_zero, List.set_cons_succ])
  refine wpAnyH_take (i := 14) (oi := ?_) (v := ?_) ?hiu157 (by as_aux_lemma => kernel_rfl) (by as_aux_lemma => kernel_rfl) (by as_aux_lemma => kernel_rfl) ?hQu157 (Or.inl ⟨?hwu157, ?hyu157⟩) hHeld ?restu157
  case hiu157 => simp only [List.getElem?_toArray, List.getElem?_cons_zero, List.getElem?_cons_succ]; rfl
  case hwu157 => rfl
  case hyu157 => (intro w9 hSw; (try dsimp only at hSw); go_simp; (try with_reducible rfl))
  case hQu157 => exact fun _ _ _ h => h
  (try simp only [Act.put, List.setIfInBounds_toArray, List.set_cons_zero, List.set_cons_succ])
  refine wpAnyH_take (i := 15) (oi := ?_) (v := ?_) ?hiu158 (by as_aux_lemma => kernel_rfl) (by as_aux_lemma => kernel_rfl) (by as_aux_lemma => kernel_rfl) ?hQu158 (Or.inl ⟨?hwu158, ?hyu158⟩) hHeld ?restu158
  case hiu158 => simp only [List.getElem?_toArray, List.getElem?_cons_zero, List.getElem?_cons_succ]; rfl
  case hwu158 => rfl
  case hyu158 => (intro w9 hSw; (try dsimp only at hSw); go_simp; (try with_reducible rfl))
  case hQu158 => exact fun _ _ _ h => h
  (try simp only [Act.put, List.setIfInBounds_toArray, List.set_cons_zero, List.set_cons_succ])
  refine wpAnyH_take (i := 16) (oi := ?_) (v := ?_) ?hiu159 (by as_aux_lemma => kernel_rfl) (by as_aux_lemma => kernel_rfl) (by as_aux_lemma => kernel_rfl) ?hQu159 (Or.inl ⟨?hwu159, ?hyu159⟩) hHeld ?restu159
  case hiu159 => simp only [List.getElem?_toArray, List.getElem?_cons_zero, List.getElem?_cons_succ]; rfl
  case hwu159 => rfl
  case hyu159 => (intro w9 hSw; (try dsimp only at hSw); go_simp; (try with_reducible rfl))
  case hQu159 => exact fun _ _ _ h => h
  (try simp only [Act.put, List.setIfInBounds_toArray, List.set_cons_zero, List.set_cons_succ])
  refine wpAnyH_ready (rs := [17]) (by as_aux_lemma => kernel_rfl) (by simp) (AllReadyH.cons (o := ?_) ?hiu160 (fun K hK => ?_) AllReadyH.nil)
  case hiu160 => simp only [List.getElem?_toArray, List.getElem?_cons_zero, List.getElem?_cons_succ]; rfl
  go_simp
  refine hK.out _ _ ?_ (fun hHeld => ?_)
  · exact ⟨q12_below hq4 (bel1 _ _).drew, q11_below ht4 (bel1 _ _).drew⟩
  clear hK K
  (try simp only [Act.put, List.setIfInBounds_toArray, List.set_cons_zero, List.set_cons_succ])
  refine wpAnyH_ready (rs := [18]) (by as_aux_lemma => kernel_rfl) (by simp) (AllReadyH.cons (o := ?_) ?hiu161 (fun K hK => ?_) AllReadyH.nil)
  case hiu161 => simp only [List.getElem?_toArray, List.getElem?_cons_zero, List.getElem?_cons_succ]; rfl
  go_simp
  refine hK.out _ _ ?_ (fun hHeld => ?_)
  · exact ⟨q12_below hq4 (bel1 _ _).drew, q11_below ht4 (bel1 _ _).drew⟩
  clear hK K
  (try simp only [Act.put, List.setIfInBounds_toArray, List.set_cons_zero, List.set_cons_succ])
  refine wpAnyH_done (by as_aux_lemma => kernel_rfl) ?_ _
  clear hHeld
  obtain ⟨w5, hw5⟩ : ∃ w5, (w4.alloc (.cells #[.int .i64 v1, .int .i64 d, .int .i64 v7, .int .i64 v8, .int .i64 v2, .int .i64 v3, .int .i64 0, .int .i64 v4, .int .i64 v5, .int .i64 (d % 3), .int .i64 v6, .int .i64 v11, .int .i64 v9, .int .i64 v10, .int .i64 0] 52)).drew = w5 := ⟨_, rfl⟩
  have hb45 : Below w4.heap.size w4 w5 := by rw [← hw5]; exact (bel1 _ _).drew
  have hq5 := q12_below hq4 hb45
  have ht5 := (q11_below ht4 hb45).1
  have hG5 : w5.heap[w4.heap.size]? = some (.cells #[.int .i64 v1, .int .i64 d, .int .i64 v7, .int .i64 v8, .int .i64 v2, .int .i64 v3, .int .i64 0, .int .i64 v4, .int .i64 v5, .int .i64 (d % 3), .int .i64 v6, .int .i64 v11, .int .i64 v9, .int .i64 v10, .int .i64 0] 52 (0, 0)) := by rw [← hw5]; exact heap_alloc_new w4 _
  have hr5 : (w4.heap.size < w5.heap.size ∧ w5.cell? ⟨w4.heap.size, 0, none⟩ = some (.int .i64 v1) ∧ w5.cell? ⟨w4.heap.size, 1, none⟩ = some (.int .i64 d) ∧ w5.cell? ⟨w4.heap.size, 2, none⟩ = some (.int .i64 v7) ∧ w5.cell? ⟨w4.heap.size, 3, none⟩ = some (.int .i64 v8) ∧ w5.cell? ⟨w4.heap.size, 4, none⟩ = some (.int .i64 v2) ∧ w5.cell? ⟨w4.heap.size, 5, none⟩ = some (.int .i64 v3) ∧ w5.cell? ⟨w4.heap.size, 6, none⟩ = some (.int .i64 0) ∧ w5.cell? ⟨w4.heap.size, 7, none⟩ = some (.int .i64 v4) ∧ w5.cell? ⟨w4.heap.size, 8, none⟩ = some (.int .i64 v5) ∧ w5.cell? ⟨w4.heap.size, 9, none⟩ = some (.int .i64 (d % 3)) ∧ w5.cell? ⟨w4.heap.size, 10, none⟩ = some (.int .i64 v6) ∧ w5.cell? ⟨w4.heap.size, 11, none⟩ = some (.int .i64 v11) ∧ w5.cell? ⟨w4.heap.size, 12, none⟩ = some (.int .i64 v9) ∧ w5.cell? ⟨w4.heap.size, 13, none⟩ = some (.int .i64 v10) ∧ w5.cell? ⟨w4.heap.size, 14, none⟩ = some (.int .i64 0)) ∧ Below w5.heap.size w5 w5 := ⟨⟨(Array.getElem?_eq_some_iff.1 hG5).1, (cell_of_row _ w4.heap.size 0 _ _ _ hG5).trans rfl, (cell_of_row _ w4.heap.size 1 _ _ _ hG5).trans rfl, (cell_of_row _ w4.heap.size 2 _ _ _ hG5).trans rfl, (cell_of_row _ w4.heap.size 3 _ _ _ hG5).trans rfl, (cell_of_row _ w4.heap.size 4 _ _ _ hG5).trans rfl, (cell_of_row _ w4.heap.size 5 _ _ _ hG5).trans rfl, (cell_of_row _ w4.heap.size 6 _ _ _ hG5).trans rfl, (cell_of_row _ w4.heap.size 7 _ _ _ hG5).trans rfl, (cell_of_row _ w4.heap.size 8 _ _ _ hG5).trans rfl, (cell_of_row _ w4.heap.size 9 _ _ _ hG5).trans rfl, (cell_of_row _ w4.heap.size 10 _ _ _ hG5).trans rfl, (cell_of_row _ w4.heap.size 11 _ _ _ hG5).trans rfl, (cell_of_row _ w4.heap.size 12 _ _ _ hG5).trans rfl, (cell_of_row _ w4.heap.size 13 _ _ _ hG5).trans rfl, (cell_of_row _ w4.heap.size 14 _ _ _ hG5).trans rfl⟩, Below.refl _ _⟩
  have hgO := (hq5.2.block w.heap.size hz4).trans hg3.out
  have HBr := Lib.hid (bT HB3.out hq5.2)
  have hzr : w.heap.size < w5.heap.size := Nat.lt_of_lt_of_le hz4 hq5.2.size
  rw [hw5]
  have ht5' : (w3.heap.size < w5.heap.size ∧ w5.cell? ⟨w3.heap.size, 0, none⟩ = some (.int .i64 v1) ∧ w5.cell? ⟨w3.heap.size, 1, none⟩ = some (.int .i64 d) ∧ w5.cell? ⟨w3.heap.size, 2, none⟩ = some (.int .i64 v7) ∧ w5.cell? ⟨w3.heap.size, 3, none⟩ = some (.int .i64 v8) ∧ w5.cell? ⟨w3.heap.size, 4, none⟩ = some (.int .i64 v2) ∧ w5.cell? ⟨w3.heap.size, 5, none⟩ = some (.int .i64 v3) ∧ w5.cell? ⟨w3.heap.size, 6, none⟩ = some (.int .i64 0) ∧ w5.cell? ⟨w3.heap.size, 7, none⟩ = some (.int .i64 v4) ∧ w5.cell? ⟨w3.heap.size, 8, none⟩ = some (.int .i64 v5) ∧ w5.cell? ⟨w3.heap.size, 9, none⟩ = some (.int .i64 (d % 3)) ∧ w5.cell? ⟨w3.heap.size, 10, none⟩ = some (.int .i64 v6)) ∧ Below w5.heap.size w5 w5 := ⟨ht5, Below.refl _ _⟩
  clear hw5 hG5 hG4 ht4 hq4 hq0 hq5 hb45 HB3 HW4 hgb hgl ht5
  have hz : ∀ W9 : World, Below w5.heap.size w5 W9 → (∀ o, o < 15 → W9.cell? ⟨w.heap.size, o, none⟩ = some (.int .i64 0)) ∧ (∀ o, W9.frozen? ⟨w.heap.size, o, none⟩ = false) ∧ w.heap.size < W9.heap.size ∧ W9.heap[w.heap.size]? = some (.cells #[.int .i64 0, .int .i64 0, .int .i64 0, .int .i64 0, .int .i64 0, .int .i64 0, .int .i64 0, .int .i64 0, .int .i64 0, .int .i64 0, .int .i64 0, .int .i64 0, .int .i64 0, .int .i64 0, .int .i64 0] 52 (0, 0)) ∧ Below w.heap.size w W9 := by
    intro W9 hb
    have hg := (hb.block w.heap.size hzr).trans hgO
    refine ⟨?_, by intro o; simp [World.frozen?, hg], Nat.lt_of_lt_of_le hzr hb.size, hg, bT HBr.out hb⟩
    intro o ho
    rw [cell_of_row _ w.heap.size o _ _ _ hg]
    have : o = 0 ∨ o = 1 ∨ o = 2 ∨ o = 3 ∨ o = 4 ∨ o = 5 ∨ o = 6 ∨ o = 7 ∨ o = 8 ∨ o = 9 ∨ o = 10 ∨ o = 11 ∨ o = 12 ∨ o = 13 ∨ o = 14 := by omega
    rcases this with rfl | rfl | rfl | rfl | rfl | rfl | rfl | rfl | rfl | rfl | rfl | rfl | rfl | rfl | rfl <;> rfl
  have HZ := Lib.hid hz
  clear hz hgO HBr
  cases hT : tkB v1 d v7 v8 v2 v3 0 v4 v5 (d % 3) v6 with
  | false =>
    have E := Lib.hid (show layG L = (zeroC, 9) by rw [HX.out]; simp [okC, hT])
    go_wp2_with (go_at_call 57; (with_reducible refine (refIs_any v1 d v7 v8 v2 v3 0 v4 v5 (d % 3) v6 _).mono ?_); rintro e w6 ⟨rfl, hb6⟩; have hr6 := qr_below hr5 hb6; have ht6 := q11_below ht5' hb6; obtain ⟨hcz, hfz, hzZ, hgZ, hBZ⟩ := HZ.out _ hr6.2; have HGZ := Lib.hid hgZ; have HBZ := Lib.hid hBZ; clear hgZ hBZ)
    exact ⟨rfl, refGetOut (c := zeroC) rfl rfl (row_set (row_set (row_set (row_set (row_set (row_set (row_set (row_set (row_set (row_set (row_set (row_set (row_set (row_set (row_set HGZ.out 0 _) 1 _) 2 _) 3 _) 4 _) 5 _) 6 _) 7 _) 8 _) 9 _) 10 _) 11 _) 12 _) 13 _) 14 _) rfl E.out (by have h := HBZ.out; repeat (first | (with_reducible exact bR _) | (with_reducible refine bT ?_ (by assumption)) | (with_reducible apply bA) | (with_reducible apply bD) | (with_reducible apply bN) | (with_reducible refine bS ?_ (by first | omega | (simp; done) | (simp; omega)))))⟩
  | true =>
  cases hU : suB (d % 3) v9 v10 with
  | false =>
    have E := Lib.hid (show layG L = (zeroC, 9) by rw [HX.out]; simp [okC, hT, hU])
    go_wp2_with (first | (go_at_call 57; (with_reducible refine (refIs_any v1 d v7 v8 v2 v3 0 v4 v5 (d % 3) v6 _).mono ?_); rintro e w6 ⟨rfl, hb6⟩; have hr6 := qr_below hr5 hb6; have ht6 := q11_below ht5' hb6; obtain ⟨hcz, hfz, hzZ, hgZ, hBZ⟩ := HZ.out _ hr6.2; have HGZ := Lib.hid hgZ; have HBZ := Lib.hid hBZ; clear hgZ hBZ) | (go_at_call 51; (with_reducible refine (refSuits_any v1 d v7 v8 v2 v3 0 v4 v5 (d % 3) v6 v9 v10 _).mono ?_); rintro e w7 ⟨rfl, hb7⟩; have hr7 := qr_below hr6 hb7; obtain ⟨hcz, hfz, hzZ, hgZ, hBZ⟩ := HZ.out _ hr7.2; have HGZ := Lib.hid hgZ; have HBZ := Lib.hid hBZ; clear hgZ hBZ))
    exact ⟨rfl, refGetOut (c := zeroC) rfl rfl (row_set (row_set (row_set (row_set (row_set (row_set (row_set (row_set (row_set (row_set (row_set (row_set (row_set (row_set (row_set HGZ.out 0 _) 1 _) 2 _) 3 _) 4 _) 5 _) 6 _) 7 _) 8 _) 9 _) 10 _) 11 _) 12 _) 13 _) 14 _) rfl E.out (by have h := HBZ.out; repeat (first | (with_reducible exact bR _) | (with_reducible refine bT ?_ (by assumption)) | (with_reducible apply bA) | (with_reducible apply bD) | (with_reducible apply bN) | (with_reducible refine bS ?_ (by first | omega | (simp; done) | (simp; omega)))))⟩
  | true =>
    have E := Lib.hid (show layG L = ([v1, d, v7, v8, v2, v3, 0, v4, v5, (d % 3), v6, v11, v9, v10, 0], 0) by rw [HX.out]; simp [okC, hT, hU])
    go_wp2_with (first | (go_at_call 57; (with_reducible refine (refIs_any v1 d v7 v8 v2 v3 0 v4 v5 (d % 3) v6 _).mono ?_); rintro e w6 ⟨rfl, hb6⟩; have hr6 := qr_below hr5 hb6; have ht6 := q11_below ht5' hb6; obtain ⟨hcz, hfz, hzZ, hgZ, hBZ⟩ := HZ.out _ hr6.2; have HGZ := Lib.hid hgZ; have HBZ := Lib.hid hBZ; clear hgZ hBZ) | (go_at_call 51; (with_reducible refine (refSuits_any v1 d v7 v8 v2 v3 0 v4 v5 (d % 3) v6 v9 v10 _).mono ?_); rintro e w7 ⟨rfl, hb7⟩; have hr7 := qr_below hr6 hb7; obtain ⟨hcz, hfz, hzZ, hgZ, hBZ⟩ := HZ.out _ hr7.2; have HGZ := Lib.hid hgZ; have HBZ := Lib.hid hBZ; clear hgZ hBZ))
    exact ⟨rfl, refGetOut (c := [v1, d, v7, v8, v2, v3, 0, v4, v5, (d % 3), v6, v11, v9, v10, 0]) rfl rfl ((set15 _ _ _ _ _ _ _ _ _ _ _ _ _ _ _ HGZ.out).trans rfl) rfl E.out (by have h := HBZ.out; repeat (first | (with_reducible exact bR _) | (with_reducible refine bT ?_ (by assumption)) | (with_reducible apply bA) | (with_reducible apply bD) | (with_reducible apply bN) | (with_reducible refine bS ?_ (by first | omega | (simp; done) | (simp; omega)))))⟩

set_option maxHeartbeats 8000000 in
set_option maxRecDepth 100000 in
theorem refLayGet_any (A : Option Addr) (c : Nat) (l : List Int) (w : World) (hr : RdI w .u8 A l) (hlc : l.length ≤ c) (hc9 : c ≤ 9223372036854775807) (hb : ∀ x ∈ l, 0 ≤ x ∧ x < 256) :
    Calls Try.prog 53 #[.slice A l.length c] w (GetRet (layG l) w) := by
  by_cases h0 : l.length = 0
  · have E := Lib.hid (show layG l = (zeroC, 14) by rw [List.length_eq_zero_iff.1 h0]; rfl)
    have d0 : ((l.length : Int) == 0) = true := by simpa using h0
    go_enter Try.func53, Try.ntmps53
    go_wp2
    exact ⟨rfl, refGetOut rfl rfl (heap_alloc_new w _) rfl E.out (bel1 _ _)⟩
  have hlt : 0 < l.length := by omega
  obtain ⟨d, l', rfl⟩ : ∃ d l', l = d :: l' := by
    cases l with
    | nil => simp at h0
    | cons d l' => exact ⟨d, l', rfl⟩
  have d0 : (((d :: l').length : Int) == 0) = false := by simp; omega
  obtain ⟨ad, rfl, hcd⟩ := (hr.below (bel1 w (.cells #[.int .i64 0, .int .i64 0, .int .i64 0, .int .i64 0, .int .i64 0, .int .i64 0, .int .i64 0, .int .i64 0, .int .i64 0, .int .i64 0, .int .i64 0, .int .i64 0, .int .i64 0, .int .i64 0, .int .i64 0] 52))).at_ hlt
  rw [add_zero] at hcd
  replace hcd : (w.alloc (.cells #[.int .i64 0, .int .i64 0, .int .i64 0, .int .i64 0, .int .i64 0, .int .i64 0, .int .i64 0, .int .i64 0, .int .i64 0, .int .i64 0, .int .i64 0, .int .i64 0, .int .i64 0, .int .i64 0, .int .i64 0] 52)).cell? ad = some (.int .u8 d) := hcd
  have hbd := hb d List.mem_cons_self
  obtain ⟨m, hm⟩ : ∃ m, (d :: l').length = m := ⟨_, rfl⟩
  have hlt2 : 0 < m := by omega
  by_cases h9 : 9 < d
  · have E := Lib.hid (show layG (d :: l') = (zeroC, 7) by rw [layG_cons, if_pos h9])
    rw [hm] at d0 ⊢
    go_enter Try.func53, Try.ntmps53
    go_wp2
    exact ⟨rfl, refGetOut rfl rfl (heap_alloc_new w _) rfl E.out (bel1 _ _)⟩
  have d9 : decide (9 < d) = false := by simpa using h9
  by_cases h8 : wsE d = 0
  rotate_left
  · have E := Lib.hid (show layG (d :: l') = (zeroC, wsE d) by rw [layG_cons, if_neg h9, if_pos h8]; unfold wsE at h8 ⊢; split at h8 <;> simp_all)
    have d8 : (wsE d != 0) = true := by simpa using h8
    rw [hm] at d0 ⊢
    clear h8
    go_enter Try.func53, Try.ntmps53
    go_wp2_with fail
    refine (refWidths_any d _).mono ?_
    rintro e w2 ⟨u, rfl, uo, hb2⟩
    obtain ⟨uA, uc, rfl, _, _⟩ := own_slice uo
    obtain ⟨hc2, hf2⟩ := bcell hb2
    have hz2 : w.heap.size < w2.heap.size := by have := hb2.size; simp at this; omega
    have hg2 := Lib.hid ((hb2.block w.heap.size (by simp)).trans (heap_alloc_new w _))
    have HB2 := Lib.hid (bT (bel1 w _) hb2)
    clear uo hb2
    go_wp2
    exact ⟨rfl, refGetOut (c := zeroC) rfl rfl (row_set (row_set (row_set (row_set (row_set (row_set (row_set (row_set (row_set (row_set (row_set (row_set (row_set (row_set (row_set hg2.out 0 _) 1 _) 2 _) 3 _) 4 _) 5 _) 6 _) 7 _) 8 _) 9 _) 10 _) 11 _) 12 _) 13 _) 14 _) rfl E.out (by have h := HB2.out; repeat (first | (with_reducible exact bR _) | (with_reducible refine bT ?_ (by assumption)) | (with_reducible apply bA) | (with_reducible apply bD) | (with_reducible apply bN) | (with_reducible refine bS ?_ (by first | omega | (simp; done) | (simp; omega)))))⟩
  by_cases h7 : (splitR (d :: l') (wsL d)).2 = 0
  rotate_left
  · have E := Lib.hid (show layG (d :: l') = (zeroC, (splitR (d :: l') (wsL d)).2) by rw [layG_cons, if_neg h9, if_neg (by simp [h8]), if_pos h7])
    have d7 : ((splitR (d :: l') (wsL d)).2 != 0) = true := by simpa using h7
    have hwl := wsL_le d
    obtain ⟨L, hL⟩ : ∃ L, d :: l' = L := ⟨_, rfl⟩
    rw [hL] at hr hlc hb E d7 hm d0 ⊢
    subst hm
    clear h7 hL
    go_enter Try.func53, Try.ntmps53
    go_wp2_with fail
    refine (refWidths_any d _).mono ?_
    rintro e w2 ⟨u, rfl, uo, hb2⟩
    obtain ⟨uA, uc, rfl, _, _⟩ := own_slice uo
    have ur := RdI.of_own uo
    have hr2 := (hr.below (bel1 w _)).below hb2
    have hg2 := (hb2.block w.heap.size (by simp)).trans (heap_alloc_new w _)
    have HB2 := Lib.hid (bT (bel1 w _) hb2)
    clear uo hb2
    go_wp2_with fail
    refine (refSplit_any (some ad) uA c uc L (wsL d) _ hr2 ur hlc hc9 (by omega) hb).mono ?_
    rintro e w3 ⟨z, rfl, zo, hb3⟩
    obtain ⟨zA, zc, rfl, _, _⟩ := own_slice zo
    obtain ⟨hc3, hf3⟩ := bcell hb3
    have hz3 : w.heap.size < w2.heap.size := (Array.getElem?_eq_some_iff.1 hg2).1
    have hz4 : w.heap.size < w3.heap.size := by have := hb3.size; omega
    have hg3 := Lib.hid ((hb3.block w.heap.size hz3).trans hg2)
    have hcz : ∀ o, o < 15 → w2.cell? ⟨w.heap.size, o, none⟩ = some (.int .i64 0) := by
      intro o ho
      rw [cell_of_row _ w.heap.size o _ _ _ hg2]
      have : o = 0 ∨ o = 1 ∨ o = 2 ∨ o = 3 ∨ o = 4 ∨ o = 5 ∨ o = 6 ∨ o = 7 ∨ o = 8 ∨ o = 9 ∨ o = 10 ∨ o = 11 ∨ o = 12 ∨ o = 13 ∨ o = 14 := by omega
      rcases this with rfl | rfl | rfl | rfl | rfl | rfl | rfl | rfl | rfl | rfl | rfl | rfl | rfl | rfl | rfl <;> rfl
    have hfz : ∀ o, w2.frozen? ⟨w.heap.size, o, none⟩ = false := by intro o; simp [World.frozen?, hg2]
    have HB3 := Lib.hid (bT HB2.out hb3)
    clear zo hb3 hg2
    go_wp2
    exact ⟨rfl, refGetOut (c := zeroC) rfl rfl (row_set (row_set (row_set (row_set (row_set (row_set (row_set (row_set (row_set (row_set (row_set (row_set (row_set (row_set (row_set hg3.out 0 _) 1 _) 2 _) 3 _) 4 _) 5 _) 6 _) 7 _) 8 _) 9 _) 10 _) 11 _) 12 _) 13 _) 14 _) rfl E.out (by have h := HB3.out; repeat (first | (with_reducible exact bR _) | (with_reducible refine bT ?_ (by assumption)) | (with_reducible apply bA) | (with_reducible apply bD) | (with_reducible apply bN) | (with_reducible refine bS ?_ (by first | omega | (simp; done) | (simp; omega)))))⟩
  by_cases h4 : d = 4
  · exact refGet_g4 ad c d l' w hr hlc hc9 hb hcd (by omega) h8 h7 h4
  · exact refGet_g3 ad c d l' w hr hlc hc9 hb hcd (by omega) h8 h7 h4
end Go.Proofs.Ythejnlelegcgfaa

/- Layer 13's Get: what the document's answer computes: the very same function. Layer 13's reference of Put: what it computes. No condition. -/
import Derived.Test.YtnbghgenaolfgaaGreatZ17
import Derived.Test.YtnbghgenaolfgaaGreatZ03
import Derived.Test.YtnbghgenaolfgaaGreatZ05
namespace Go.Proofs.YtnbghgenaolfgaaGreat
open Go.RowKit
set_option linter.unusedVariables false
set_option maxRecDepth 100000
set_option linter.unusedSimpArgs false

theorem q12_below {b : Nat} {wr W w9 : World} {c0 c1 c2 c3 c4 c5 c6 c7 c8 c9 c10 c11 : Int} (h : (b < W.heap.size ∧ W.cell? ⟨b, 0, none⟩ = some (.int .i64 c0) ∧ W.cell? ⟨b, 1, none⟩ = some (.int .i64 c1) ∧ W.cell? ⟨b, 2, none⟩ = some (.int .i64 c2) ∧ W.cell? ⟨b, 3, none⟩ = some (.int .i64 c3) ∧ W.cell? ⟨b, 4, none⟩ = some (.int .i64 c4) ∧ W.cell? ⟨b, 5, none⟩ = some (.int .i64 c5) ∧ W.cell? ⟨b, 6, none⟩ = some (.int .i64 c6) ∧ W.cell? ⟨b, 7, none⟩ = some (.int .i64 c7) ∧ W.cell? ⟨b, 8, none⟩ = some (.int .i64 c8) ∧ W.cell? ⟨b, 9, none⟩ = some (.int .i64 c9) ∧ W.cell? ⟨b, 10, none⟩ = some (.int .i64 c10) ∧ W.cell? ⟨b, 11, none⟩ = some (.int .i64 c11)) ∧ Below wr.heap.size wr W) (hb : Below W.heap.size W w9) : (b < w9.heap.size ∧ w9.cell? ⟨b, 0, none⟩ = some (.int .i64 c0) ∧ w9.cell? ⟨b, 1, none⟩ = some (.int .i64 c1) ∧ w9.cell? ⟨b, 2, none⟩ = some (.int .i64 c2) ∧ w9.cell? ⟨b, 3, none⟩ = some (.int .i64 c3) ∧ w9.cell? ⟨b, 4, none⟩ = some (.int .i64 c4) ∧ w9.cell? ⟨b, 5, none⟩ = some (.int .i64 c5) ∧ w9.cell? ⟨b, 6, none⟩ = some (.int .i64 c6) ∧ w9.cell? ⟨b, 7, none⟩ = some (.int .i64 c7) ∧ w9.cell? ⟨b, 8, none⟩ = some (.int .i64 c8) ∧ w9.cell? ⟨b, 9, none⟩ = some (.int .i64 c9) ∧ w9.cell? ⟨b, 10, none⟩ = some (.int .i64 c10) ∧ w9.cell? ⟨b, 11, none⟩ = some (.int .i64 c11)) ∧ Below wr.heap.size wr w9 :=
  ⟨⟨Nat.lt_of_lt_of_le h.1.1 hb.size, by have hl := h.1.1; obtain ⟨hc, _⟩ := bcell hb; simp only [hc b _ hl]; exact h.1.2⟩, bT h.2 hb⟩
theorem q13_below {b : Nat} {wr W w9 : World} {c0 c1 c2 c3 c4 c5 c6 c7 c8 c9 c10 c11 c12 : Int} (h : (b < W.heap.size ∧ W.cell? ⟨b, 0, none⟩ = some (.int .i64 c0) ∧ W.cell? ⟨b, 1, none⟩ = some (.int .i64 c1) ∧ W.cell? ⟨b, 2, none⟩ = some (.int .i64 c2) ∧ W.cell? ⟨b, 3, none⟩ = some (.int .i64 c3) ∧ W.cell? ⟨b, 4, none⟩ = some (.int .i64 c4) ∧ W.cell? ⟨b, 5, none⟩ = some (.int .i64 c5) ∧ W.cell? ⟨b, 6, none⟩ = some (.int .i64 c6) ∧ W.cell? ⟨b, 7, none⟩ = some (.int .i64 c7) ∧ W.cell? ⟨b, 8, none⟩ = some (.int .i64 c8) ∧ W.cell? ⟨b, 9, none⟩ = some (.int .i64 c9) ∧ W.cell? ⟨b, 10, none⟩ = some (.int .i64 c10) ∧ W.cell? ⟨b, 11, none⟩ = some (.int .i64 c11) ∧ W.cell? ⟨b, 12, none⟩ = some (.int .i64 c12)) ∧ Below wr.heap.size wr W) (hb : Below W.heap.size W w9) : (b < w9.heap.size ∧ w9.cell? ⟨b, 0, none⟩ = some (.int .i64 c0) ∧ w9.cell? ⟨b, 1, none⟩ = some (.int .i64 c1) ∧ w9.cell? ⟨b, 2, none⟩ = some (.int .i64 c2) ∧ w9.cell? ⟨b, 3, none⟩ = some (.int .i64 c3) ∧ w9.cell? ⟨b, 4, none⟩ = some (.int .i64 c4) ∧ w9.cell? ⟨b, 5, none⟩ = some (.int .i64 c5) ∧ w9.cell? ⟨b, 6, none⟩ = some (.int .i64 c6) ∧ w9.cell? ⟨b, 7, none⟩ = some (.int .i64 c7) ∧ w9.cell? ⟨b, 8, none⟩ = some (.int .i64 c8) ∧ w9.cell? ⟨b, 9, none⟩ = some (.int .i64 c9) ∧ w9.cell? ⟨b, 10, none⟩ = some (.int .i64 c10) ∧ w9.cell? ⟨b, 11, none⟩ = some (.int .i64 c11) ∧ w9.cell? ⟨b, 12, none⟩ = some (.int .i64 c12)) ∧ Below wr.heap.size wr w9 :=
  ⟨⟨Nat.lt_of_lt_of_le h.1.1 hb.size, by have hl := h.1.1; obtain ⟨hc, _⟩ := bcell hb; simp only [hc b _ hl]; exact h.1.2⟩, bT h.2 hb⟩
theorem q11_below {b : Nat} {wr W w9 : World} {c0 c1 c2 c3 c4 c5 c6 c7 c8 c9 c10 : Int} (h : (b < W.heap.size ∧ W.cell? ⟨b, 0, none⟩ = some (.int .i64 c0) ∧ W.cell? ⟨b, 1, none⟩ = some (.int .i64 c1) ∧ W.cell? ⟨b, 2, none⟩ = some (.int .i64 c2) ∧ W.cell? ⟨b, 3, none⟩ = some (.int .i64 c3) ∧ W.cell? ⟨b, 4, none⟩ = some (.int .i64 c4) ∧ W.cell? ⟨b, 5, none⟩ = some (.int .i64 c5) ∧ W.cell? ⟨b, 6, none⟩ = some (.int .i64 c6) ∧ W.cell? ⟨b, 7, none⟩ = some (.int .i64 c7) ∧ W.cell? ⟨b, 8, none⟩ = some (.int .i64 c8) ∧ W.cell? ⟨b, 9, none⟩ = some (.int .i64 c9) ∧ W.cell? ⟨b, 10, none⟩ = some (.int .i64 c10)) ∧ Below wr.heap.size wr W) (hb : Below W.heap.size W w9) : (b < w9.heap.size ∧ w9.cell? ⟨b, 0, none⟩ = some (.int .i64 c0) ∧ w9.cell? ⟨b, 1, none⟩ = some (.int .i64 c1) ∧ w9.cell? ⟨b, 2, none⟩ = some (.int .i64 c2) ∧ w9.cell? ⟨b, 3, none⟩ = some (.int .i64 c3) ∧ w9.cell? ⟨b, 4, none⟩ = some (.int .i64 c4) ∧ w9.cell? ⟨b, 5, none⟩ = some (.int .i64 c5) ∧ w9.cell? ⟨b, 6, none⟩ = some (.int .i64 c6) ∧ w9.cell? ⟨b, 7, none⟩ = some (.int .i64 c7) ∧ w9.cell? ⟨b, 8, none⟩ = some (.int .i64 c8) ∧ w9.cell? ⟨b, 9, none⟩ = some (.int .i64 c9) ∧ w9.cell? ⟨b, 10, none⟩ = some (.int .i64 c10)) ∧ Below wr.heap.size wr w9 :=
  ⟨⟨Nat.lt_of_lt_of_le h.1.1 hb.size, by have hl := h.1.1; obtain ⟨hc, _⟩ := bcell hb; simp only [hc b _ hl]; exact h.1.2⟩, bT h.2 hb⟩
theorem qr_below {b : Nat} {wr W w9 : World} {c0 c1 c2 c3 c4 c5 c6 c7 c8 c9 c10 c11 c12 c13 c14 : Int} (h : (b < W.heap.size ∧ W.cell? ⟨b, 0, none⟩ = some (.int .i64 c0) ∧ W.cell? ⟨b, 1, none⟩ = some (.int .i64 c1) ∧ W.cell? ⟨b, 2, none⟩ = some (.int .i64 c2) ∧ W.cell? ⟨b, 3, none⟩ = some (.int .i64 c3) ∧ W.cell? ⟨b, 4, none⟩ = some (.int .i64 c4) ∧ W.cell? ⟨b, 5, none⟩ = some (.int .i64 c5) ∧ W.cell? ⟨b, 6, none⟩ = some (.int .i64 c6) ∧ W.cell? ⟨b, 7, none⟩ = some (.int .i64 c7) ∧ W.cell? ⟨b, 8, none⟩ = some (.int .i64 c8) ∧ W.cell? ⟨b, 9, none⟩ = some (.int .i64 c9) ∧ W.cell? ⟨b, 10, none⟩ = some (.int .i64 c10) ∧ W.cell? ⟨b, 11, none⟩ = some (.int .i64 c11) ∧ W.cell? ⟨b, 12, none⟩ = some (.int .i64 c12) ∧ W.cell? ⟨b, 13, none⟩ = some (.int .i64 c13) ∧ W.cell? ⟨b, 14, none⟩ = some (.int .i64 c14)) ∧ Below wr.heap.size wr W) (hb : Below W.heap.size W w9) : (b < w9.heap.size ∧ w9.cell? ⟨b, 0, none⟩ = some (.int .i64 c0) ∧ w9.cell? ⟨b, 1, none⟩ = some (.int .i64 c1) ∧ w9.cell? ⟨b, 2, none⟩ = some (.int .i64 c2) ∧ w9.cell? ⟨b, 3, none⟩ = some (.int .i64 c3) ∧ w9.cell? ⟨b, 4, none⟩ = some (.int .i64 c4) ∧ w9.cell? ⟨b, 5, none⟩ = some (.int .i64 c5) ∧ w9.cell? ⟨b, 6, none⟩ = some (.int .i64 c6) ∧ w9.cell? ⟨b, 7, none⟩ = some (.int .i64 c7) ∧ w9.cell? ⟨b, 8, none⟩ = some (.int .i64 c8) ∧ w9.cell? ⟨b, 9, none⟩ = some (.int .i64 c9) ∧ w9.cell? ⟨b, 10, none⟩ = some (.int .i64 c10) ∧ w9.cell? ⟨b, 11, none⟩ = some (.int .i64 c11) ∧ w9.cell? ⟨b, 12, none⟩ = some (.int .i64 c12) ∧ w9.cell? ⟨b, 13, none⟩ = some (.int .i64 c13) ∧ w9.cell? ⟨b, 14, none⟩ = some (.int .i64 c14)) ∧ Below wr.heap.size wr w9 :=
  ⟨⟨Nat.lt_of_lt_of_le h.1.1 hb.size, by have hl := h.1.1; obtain ⟨hc, _⟩ := bcell hb; simp only [hc b _ hl]; exact h.1.2⟩, bT h.2 hb⟩
theorem splitGo_acc : ∀ (ws l acc : List Int), (splitGo l ws acc).2 = 0 → ∃ t, (splitGo l ws acc).1 = acc ++ t
  | [], l, acc, _ => ⟨[], by simp [splitGo]⟩
  | x :: ws, l, acc, h => by
    rw [splitGo_cons] at h ⊢
    split
    · rename_i hg; rw [if_pos hg] at h; exact absurd h hg
    · rename_i hg
      rw [if_neg hg] at h
      obtain ⟨t, ht⟩ := splitGo_acc ws _ _ h
      exact ⟨[(getR (l.take x.toNat)).1] ++ t, by rw [ht, List.append_assoc]⟩
theorem splitR_head {d : Int} {l ws : List Int} (h9 : ¬ 9 < d) (h : (splitR (d :: l) (1 :: ws)).2 = 0) : ∃ t, (splitR (d :: l) (1 :: ws)).1 = d :: t := by
  unfold splitR at h ⊢
  split
  · rename_i h20; rw [if_pos h20] at h; simp at h
  · rename_i h20
    rw [if_neg h20] at h
    split
    · rename_i hs; rw [hs] at h; simp at h
    · rename_i s hs
      rw [hs] at h
      simp only at h
      split
      · rename_i hn; rw [if_pos hn] at h; simp at h
      · rename_i hn
        rw [if_neg hn] at h
        have hg : getR [d] = (d, 0) := by rw [getR_short (by simp), getGo_cons, if_neg h9]; simp [getGo]
        rw [splitGo_cons] at h ⊢
        simp only [Int.toNat_one, List.take_succ_cons, List.take_zero, hg] at h ⊢
        obtain ⟨t, ht⟩ := splitGo_acc ws _ _ (by simpa using h)
        exact ⟨t, by simpa using ht⟩
theorem wsL_head {d : Int} (h1 : ¬ d < 1) (h4 : ¬ 4 < d) : ∃ ws, wsL d = 1 :: ws := by
  unfold wsL
  rw [if_neg (by omega)]
  split
  · exact ⟨_, rfl⟩
  · split <;> exact ⟨_, rfl⟩

theorem refGetOut {W w : World} {tmps : Array Value} {l : List Int} {c : List Int} {e : Int} {fr : Nat × Nat} {ty : TypeId} (hp : tmps.getD 2 undef = .pointer (some ⟨w.heap.size, 0, none⟩)) (hq : tmps.getD 3 undef = .int .i64 e)
    (hg : W.heap[w.heap.size]? = some (.cells (c.map (Value.int .i64)).toArray ty fr)) (hc : c.length = 15) (hE : layG l = (c, e)) (hb : Below w.heap.size w W) :
    ∃ u, (results Tryz.f53 tmps).run Tryz.prog W = .ok u W ∧ GetRet (layG l) w (.returned u) W := by
  refine ⟨_, results_cellrow (ty := ty) rfl Tryz.underlying28 rfl hp hq hg ?_, by rw [hE], hb⟩
  rw [show (c.map (Value.int .i64)).toArray.size = 15 by simp [hc]]
  kernel_rfl

set_option maxHeartbeats 8000000 in
set_option maxRecDepth 100000 in
theorem refGet_g4 (ad : Addr) (c : Nat) (d : Int) (l' : List Int) (w : World) (hr : RdI w .u8 (some ad) (d :: l')) (hlc : (d :: l').length ≤ c) (hc9 : c ≤ 9223372036854775807) (hb : ∀ x ∈ d :: l', 0 ≤ x ∧ x < 256)
    (hcd : (w.alloc (.cells #[.int .i64 0, .int .i64 0, .int .i64 0, .int .i64 0, .int .i64 0, .int .i64 0, .int .i64 0, .int .i64 0, .int .i64 0, .int .i64 0, .int .i64 0, .int .i64 0, .int .i64 0, .int .i64 0, .int .i64 0] 28)).cell? ad = some (.int .u8 d)) (h9 : ¬ 9 < d) (h8 : wsE d = 0) (h7 : (splitR (d :: l') (wsL d)).2 = 0) (h4 : d = 4) :
    Calls Tryz.prog 53 #[.slice (some ad) (d :: l').length c] w (GetRet (layG (d :: l')) w) := by
  have hlt : 0 < (d :: l').length := by simp
  have d0 : (((d :: l').length : Int) == 0) = false := by simp; omega
  have hbd := hb d List.mem_cons_self
  obtain ⟨m, hm⟩ : ∃ m, (d :: l').length = m := ⟨_, rfl⟩
  have hlt2 : 0 < m := by omega
  have d9 : decide (9 < d) = false := by simpa using h9
  have d4 : (d == 4) = true := by simpa using h4
  have H4 := Lib.hid h4
  clear h4
  have hk := wsE_kind h8
  have hwl := wsL_le d
  obtain ⟨L, hL⟩ : ∃ L, d :: l' = L := ⟨_, rfl⟩
  rw [hL] at hr hlc hb hm d0 h7 ⊢
  have HLL := Lib.hid hL
  subst hm
  clear hL
  have hd0 : 0 ≤ d := by omega
  have hd4 : d ≤ 4 := by omega
  go_enter Tryz.func53, Tryz.ntmps53
  go_wp2_with fail
  refine (refWidths_any d _).mono ?_
  rintro e w2 ⟨u, rfl, uo, hb2⟩
  obtain ⟨uA, uc, rfl, _, _⟩ := own_slice uo
  have ur := RdI.of_own uo
  have hr2 := (hr.below (bel1 w _)).below hb2
  have hg2 := (hb2.block w.heap.size (by simp)).trans (heap_alloc_new w _)
  have HB2 := Lib.hid (bT (bel1 w _) hb2)
  clear uo hb2
  go_wp2_with fail
  refine (refSplit_any (some ad) uA c uc L (wsL d) _ hr2 ur hlc hc9 (by omega) hb).mono ?_
  rintro e w3 ⟨z, rfl, zo, hb3⟩
  have hz3 : w.heap.size < w2.heap.size := (Array.getElem?_eq_some_iff.1 hg2).1
  have hg3 := Lib.hid ((hb3.block w.heap.size hz3).trans hg2)
  have HB3 := Lib.hid (bT HB2.out hb3)
  clear hg2 hr2 ur
  have hz4 : w.heap.size < w3.heap.size := by have := hb3.size; omega
  clear hb3
  have hvl := splitR_vlen h7
  obtain ⟨ws, hws⟩ := wsL_head (show ¬ d < 1 by omega) (show ¬ 4 < d by omega)
  obtain ⟨V', hV'⟩ := splitR_head (d := d) (l := l') (ws := ws) (by omega) (by rw [← hws, HLL.out]; exact h7)
  rw [← hws, HLL.out] at hV'
  have hE0 : layG L = if okC (cellsOf d (d :: V')) = true then (cellsOf d (d :: V'), 0) else (zeroC, 9) := by
    rw [← HLL.out, layG_cons, HLL.out, if_neg (by omega), if_neg (by simp [h8]), if_neg (by simp [h7]), hV']
  rw [hV'] at zo hvl
  clear hws hV'
  have hl : (wsL d).length = 13 := by rw [H4.out]; rfl
  obtain ⟨v1, v2, v3, v4, v5, v6, v7, v8, v9, v10, v11, v12, rfl⟩ : ∃ v1 v2 v3 v4 v5 v6 v7 v8 v9 v10 v11 v12, V' = [v1, v2, v3, v4, v5, v6, v7, v8, v9, v10, v11, v12] := by
    rw [hl] at hvl
    rcases V' with _ | ⟨v1, _ | ⟨v2, _ | ⟨v3, _ | ⟨v4, _ | ⟨v5, _ | ⟨v6, _ | ⟨v7, _ | ⟨v8, _ | ⟨v9, _ | ⟨v10, _ | ⟨v11, _ | ⟨v12, _ | ⟨v13, t⟩⟩⟩⟩⟩⟩⟩⟩⟩⟩⟩⟩⟩ <;> simp at hvl
    exact ⟨_, _, _, _, _, _, _, _, _, _, _, _, rfl⟩
  obtain ⟨g, cap, rfl, hgl, hgb, hcap⟩ : ∃ g cap, z = .slice (some ⟨g, 0, none⟩) 13 cap ∧ g < w3.heap.size ∧ w2.heap.size ≤ g ∧ 13 ≤ cap := by
    rcases zo.2 with ⟨_, h0⟩ | ⟨g, cap, cur, rfl, hg, hh, hq, _⟩
    · simp at h0
    · exact ⟨g, cap, rfl, (Array.getElem?_eq_some_iff.1 hh).1, by simpa using hg, by simpa using hq⟩
  have hq0 : (g < w3.heap.size ∧ w3.cell? ⟨g, 0, none⟩ = some (.int .i64 d) ∧ w3.cell? ⟨g, 1, none⟩ = some (.int .i64 v1) ∧ w3.cell? ⟨g, 2, none⟩ = some (.int .i64 v2) ∧ w3.cell? ⟨g, 3, none⟩ = some (.int .i64 v3) ∧ w3.cell? ⟨g, 4, none⟩ = some (.int .i64 v4) ∧ w3.cell? ⟨g, 5, none⟩ = some (.int .i64 v5) ∧ w3.cell? ⟨g, 6, none⟩ = some (.int .i64 v6) ∧ w3.cell? ⟨g, 7, none⟩ = some (.int .i64 v7) ∧ w3.cell? ⟨g, 8, none⟩ = some (.int .i64 v8) ∧ w3.cell? ⟨g, 9, none⟩ = some (.int .i64 v9) ∧ w3.cell? ⟨g, 10, none⟩ = some (.int .i64 v10) ∧ w3.cell? ⟨g, 11, none⟩ = some (.int .i64 v11) ∧ w3.cell? ⟨g, 12, none⟩ = some (.int .i64 v12)) ∧ Below w3.heap.size w3 w3 := ⟨⟨hgl, (zo.cellAt 0 (by simp)).trans rfl, (zo.cellAt 1 (by simp)).trans rfl, (zo.cellAt 2 (by simp)).trans rfl, (zo.cellAt 3 (by simp)).trans rfl, (zo.cellAt 4 (by simp)).trans rfl, (zo.cellAt 5 (by simp)).trans rfl, (zo.cellAt 6 (by simp)).trans rfl, (zo.cellAt 7 (by simp)).trans rfl, (zo.cellAt 8 (by simp)).trans rfl, (zo.cellAt 9 (by simp)).trans rfl, (zo.cellAt 10 (by simp)).trans rfl, (zo.cellAt 11 (by simp)).trans rfl, (zo.cellAt 12 (by simp)).trans rfl⟩, Below.refl _ _⟩
  have hE1 : layG L = if okC [v1, d, v7, v8, v2, v3, 0, v4, v5, v9, v6, v12, v10, v11, 0] = true then ([v1, d, v7, v8, v2, v3, 0, v4, v5, v9, v6, v12, v10, v11, 0], 0) else (zeroC, 9) := by rw [hE0]; unfold cellsOf; rw [if_pos H4.out]; rfl
  have HX := Lib.hid hE1
  clear hE0 hE1 zo hvl hl
  go_wp2_with fail
  refine wp_region_held_drew (S := fun w9 => (g < w9.heap.size ∧ w9.cell? ⟨g, 0, none⟩ = some (.int .i64 d) ∧ w9.cell? ⟨g, 1, none⟩ = some (.int .i64 v1) ∧ w9.cell? ⟨g, 2, none⟩ = some (.int .i64 v2) ∧ w9.cell? ⟨g, 3, none⟩ = some (.int .i64 v3) ∧ w9.cell? ⟨g, 4, none⟩ = some (.int .i64 v4) ∧ w9.cell? ⟨g, 5, none⟩ = some (.int .i64 v5) ∧ w9.cell? ⟨g, 6, none⟩ = some (.int .i64 v6) ∧ w9.cell? ⟨g, 7, none⟩ = some (.int .i64 v7) ∧ w9.cell? ⟨g, 8, none⟩ = some (.int .i64 v8) ∧ w9.cell? ⟨g, 9, none⟩ = some (.int .i64 v9) ∧ w9.cell? ⟨g, 10, none⟩ = some (.int .i64 v10) ∧ w9.cell? ⟨g, 11, none⟩ = some (.int .i64 v11) ∧ w9.cell? ⟨g, 12, none⟩ = some (.int .i64 v12)) ∧ Below w3.heap.size w3 w9) (by as_aux_lemma => kernel_rfl) ⟨hq0.1, hq0.2.drew⟩ (fun hHeld => ?_)
  refine wpAnyH_take (i := 0) (oi := ?_) (v := ?_) ?hiu1 (by as_aux_lemma => kernel_rfl) (by as_aux_lemma => kernel_rfl) (by as_aux_lemma => kernel_rfl) ?hQu1 (Or.inl ⟨?hwu1, ?hyu1⟩) hHeld ?restu1
  case hiu1 => simp only [List.getElem?_toArray, List.getElem?_cons_zero, List.getElem?_cons_succ]; rfl
  case hwu1 => rfl
  case hyu1 => (intro w9 hSw; (try dsimp only at hSw); go_simp; (try with_reducible rfl))
  case hQu1 => exact fun _ _ _ h => h
  (try simp only [Act.put, List.setIfInBounds_toArray, List.set_cons_zero, List.set_cons_succ])
  refine wpAnyH_take (i := 1) (oi := ?_) (v := ?_) ?hiu2 (by as_aux_lemma => kernel_rfl) (by as_aux_lemma => kernel_rfl) (by as_aux_lemma => kernel_rfl) ?hQu2 (Or.inl ⟨?hwu2, ?hyu2⟩) hHeld ?restu2
  case hiu2 => simp only [List.getElem?_toArray, List.getElem?_cons_zero, List.getElem?_cons_succ]; rfl
  case hwu2 => rfl
  case hyu2 => (intro w9 hSw; (try dsimp only at hSw); go_simp; (try with_reducible rfl))
  case hQu2 => exact fun _ _ _ h => h
  (try simp only [Act.put, List.setIfInBounds_toArray, List.set_cons_zero, List.set_cons_succ])
  refine wpAnyH_take (i := 2) (oi := ?_) (v := ?_) ?hiu3 (by as_aux_lemma => kernel_rfl) (by as_aux_lemma => kernel_rfl) (by as_aux_lemma => kernel_rfl) ?hQu3 (Or.inl ⟨?hwu3, ?hyu3⟩) hHeld ?restu3
  case hiu3 => simp only [List.getElem?_toArray, List.getElem?_cons_zero, List.getElem?_cons_succ]; rfl
  case hwu3 => rfl
  case hyu3 => (intro w9 hSw; (try dsimp only at hSw); go_simp; (try with_reducible rfl))
  case hQu3 => exact fun _ _ _ h => h
  (try simp only [Act.put, List.setIfInBounds_toArray, List.set_cons_zero, List.set_cons_succ])
  refine wpAnyH_take (i := 3) (oi := ?_) (v := ?_) ?hiu4 (by as_aux_lemma => kernel_rfl) (by as_aux_lemma => kernel_rfl) (by as_aux_lemma => kernel_rfl) ?hQu4 (Or.inl ⟨?hwu4, ?hyu4⟩) hHeld ?restu4
  case hiu4 => simp only [List.getElem?_toArray, List.getElem?_cons_zero, List.getElem?_cons_succ]; rfl
  case hwu4 => rfl
  case hyu4 => (intro w9 hSw; (try dsimp only at hSw); go_simp; (try with_reducible rfl))
  case hQu4 => exact fun _ _ _ h => h
  (try simp only [Act.put, List.setIfInBounds_toArray, List.set_cons_zero, List.set_cons_succ])
  refine wpAnyH_take (i := 4) (oi := ?_) (v := ?_) ?hiu5 (by as_aux_lemma => kernel_rfl) (by as_aux_lemma => kernel_rfl) (by as_aux_lemma => kernel_rfl) ?hQu5 (Or.inl ⟨?hwu5, ?hyu5⟩) hHeld ?restu5
  case hiu5 => simp only [List.getElem?_toArray, List.getElem?_cons_zero, List.getElem?_cons_succ]; rfl
  case hwu5 => rfl
  case hyu5 => (intro w9 hSw; (try dsimp only at hSw); go_simp; (try with_reducible rfl))
  case hQu5 => exact fun _ _ _ h => h
  (try simp only [Act.put, List.setIfInBounds_toArray, List.set_cons_zero, List.set_cons_succ])
  refine wpAnyH_take (i := 5) (oi := ?_) (v := ?_) ?hiu6 (by as_aux_lemma => kernel_rfl) (by as_aux_lemma => kernel_rfl) (by as_aux_lemma => kernel_rfl) ?hQu6 (Or.inl ⟨?hwu6, ?hyu6⟩) hHeld ?restu6
  case hiu6 => simp only [List.getElem?_toArray, List.getElem?_cons_zero, List.getElem?_cons_succ]; rfl
  case hwu6 => rfl
  case hyu6 => (intro w9 hSw; (try dsimp only at hSw); go_simp; (try with_reducible rfl))
  case hQu6 => exact fun _ _ _ h => h
  (try simp only [Act.put, List.setIfInBounds_toArray, List.set_cons_zero, List.set_cons_succ])
  refine wpAnyH_take (i := 6) (oi := ?_) (v := ?_) ?hiu7 (by as_aux_lemma => kernel_rfl) (by as_aux_lemma => kernel_rfl) (by as_aux_lemma => kernel_rfl) ?hQu7 (Or.inl ⟨?hwu7, ?hyu7⟩) hHeld ?restu7
  case hiu7 => simp only [List.getElem?_toArray, List.getElem?_cons_zero, List.getElem?_cons_succ]; rfl
  case hwu7 => rfl
  case hyu7 => (intro w9 hSw; (try dsimp only at hSw); go_simp; (try with_reducible rfl))
  case hQu7 => exact fun _ _ _ h => h
  (try simp only [Act.put, List.setIfInBounds_toArray, List.set_cons_zero, List.set_cons_succ])
  refine wpAnyH_take (i := 7) (oi := ?_) (v := ?_) ?hiu8 (by as_aux_lemma => kernel_rfl) (by as_aux_lemma => kernel_rfl) (by as_aux_lemma => kernel_rfl) ?hQu8 (Or.inl ⟨?hwu8, ?hyu8⟩) hHeld ?restu8
  case hiu8 => simp only [List.getElem?_toArray, List.getElem?_cons_zero, List.getElem?_cons_succ]; rfl
  case hwu8 => rfl
  case hyu8 => (intro w9 hSw; (try dsimp only at hSw); go_simp; (try with_reducible rfl))
  case hQu8 => exact fun _ _ _ h => h
  (try simp only [Act.put, List.setIfInBounds_toArray, List.set_cons_zero, List.set_cons_succ])
  refine wpAnyH_take (i := 8) (oi := ?_) (v := ?_) ?hiu9 (by as_aux_lemma => kernel_rfl) (by as_aux_lemma => kernel_rfl) (by as_aux_lemma => kernel_rfl) ?hQu9 (Or.inl ⟨?hwu9, ?hyu9⟩) hHeld ?restu9
  case hiu9 => simp only [List.getElem?_toArray, List.getElem?_cons_zero, List.getElem?_cons_succ]; rfl
  case hwu9 => rfl
  case hyu9 => (intro w9 hSw; (try dsimp only at hSw); go_simp; (try with_reducible rfl))
  case hQu9 => exact fun _ _ _ h => h
  (try simp only [Act.put, List.setIfInBounds_toArray, List.set_cons_zero, List.set_cons_succ])
  refine wpAnyH_take (i := 9) (oi := ?_) (v := ?_) ?hiu10 (by as_aux_lemma => kernel_rfl) (by as_aux_lemma => kernel_rfl) (by as_aux_lemma => kernel_rfl) ?hQu10 (Or.inl ⟨?hwu10, ?hyu10⟩) hHeld ?restu10
  case hiu10 => simp only [List.getElem?_toArray, List.getElem?_cons_zero, List.getElem?_cons_succ]; rfl
  case hwu10 => rfl
  case hyu10 => (intro w9 hSw; (try dsimp only at hSw); go_simp; (try with_reducible rfl))
  case hQu10 => exact fun _ _ _ h => h
  (try simp only [Act.put, List.setIfInBounds_toArray, List.set_cons_zero, List.set_cons_succ])
  refine wpAnyH_take (i := 10) (oi := ?_) (v := ?_) ?hiu11 (by as_aux_lemma => kernel_rfl) (by as_aux_lemma => kernel_rfl) (by as_aux_lemma => kernel_rfl) ?hQu11 (Or.inl ⟨?hwu11, ?hyu11⟩) hHeld ?restu11
  case hiu11 => simp only [List.getElem?_toArray, List.getElem?_cons_zero, List.getElem?_cons_succ]; rfl
  case hwu11 => rfl
  case hyu11 => (intro w9 hSw; (try dsimp only at hSw); go_simp; (try with_reducible rfl))
  case hQu11 => exact fun _ _ _ h => h
  (try simp only [Act.put, List.setIfInBounds_toArray, List.set_cons_zero, List.set_cons_succ])
  refine wpAnyH_take (i := 11) (oi := ?_) (v := ?_) ?hiu12 (by as_aux_lemma => kernel_rfl) (by as_aux_lemma => kernel_rfl) (by as_aux_lemma => kernel_rfl) ?hQu12 (Or.inl ⟨?hwu12, ?hyu12⟩) hHeld ?restu12
  case hiu12 => simp only [List.getElem?_toArray, List.getElem?_cons_zero, List.getElem?_cons_succ]; rfl
  case hwu12 => rfl
  case hyu12 => (intro w9 hSw; (try dsimp only at hSw); go_simp; (try with_reducible rfl))
  case hQu12 => exact fun _ _ _ h => h
  (try simp only [Act.put, List.setIfInBounds_toArray, List.set_cons_zero, List.set_cons_succ])
  refine wpAnyH_take (i := 12) (oi := ?_) (v := ?_) ?hiu13 (by as_aux_lemma => kernel_rfl) (by as_aux_lemma => kernel_rfl) (by as_aux_lemma => kernel_rfl) ?hQu13 (Or.inl ⟨?hwu13, ?hyu13⟩) hHeld ?restu13
  case hiu13 => simp only [List.getElem?_toArray, List.getElem?_cons_zero, List.getElem?_cons_succ]; rfl
  case hwu13 => rfl
  case hyu13 => (intro w9 hSw; (try dsimp only at hSw); go_simp; (try with_reducible rfl))
  case hQu13 => exact fun _ _ _ h => h
  (try simp only [Act.put, List.setIfInBounds_toArray, List.set_cons_zero, List.set_cons_succ])
  refine wpAnyH_take (i := 13) (oi := ?_) (v := ?_) ?hiu14 (by as_aux_lemma => kernel_rfl) (by as_aux_lemma => kernel_rfl) (by as_aux_lemma => kernel_rfl) ?hQu14 (Or.inl ⟨?hwu14, ?hyu14⟩) hHeld ?restu14
  case hiu14 => simp only [List.getElem?_toArray, List.getElem?_cons_zero, List.getElem?_cons_succ]; rfl
  case hwu14 => rfl
  case hyu14 => (intro w9 hSw; (try dsimp only at hSw); go_simp; (try with_reducible rfl))
  case hQu14 => exact fun _ _ _ h => h
  (try simp only [Act.put, List.setIfInBounds_toArray, List.set_cons_zero, List.set_cons_succ])
  refine wpAnyH_take (i := 14) (oi := ?_) (v := ?_) ?hiu15 (by as_aux_lemma => kernel_rfl) (by as_aux_lemma => kernel_rfl) (by as_aux_lemma => kernel_rfl) ?hQu15 (Or.inl ⟨?hwu15, ?hyu15⟩) hHeld ?restu15
  case hiu15 => simp only [List.getElem?_toArray, List.getElem?_cons_zero, List.getElem?_cons_succ]; rfl
  case hwu15 => rfl
  case hyu15 => (intro w9 hSw; (try dsimp only at hSw); go_simp; (try with_reducible rfl))
  case hQu15 => exact fun _ _ _ h => h
  (try simp only [Act.put, List.setIfInBounds_toArray, List.set_cons_zero, List.set_cons_succ])
  refine wpAnyH_take (i := 15) (oi := ?_) (v := ?_) ?hiu16 (by as_aux_lemma => kernel_rfl) (by as_aux_lemma => kernel_rfl) (by as_aux_lemma => kernel_rfl) ?hQu16 (Or.inl ⟨?hwu16, ?hyu16⟩) hHeld ?restu16
  case hiu16 => simp only [List.getElem?_toArray, List.getElem?_cons_zero, List.getElem?_cons_succ]; rfl
  case hwu16 => rfl
  case hyu16 => (intro w9 hSw; (try dsimp only at hSw); go_simp; (try with_reducible rfl))
  case hQu16 => exact fun _ _ _ h => h
  (try simp only [Act.put, List.setIfInBounds_toArray, List.set_cons_zero, List.set_cons_succ])
  refine wpAnyH_take (i := 16) (oi := ?_) (v := ?_) ?hiu17 (by as_aux_lemma => kernel_rfl) (by as_aux_lemma => kernel_rfl) (by as_aux_lemma => kernel_rfl) ?hQu17 (Or.inl ⟨?hwu17, ?hyu17⟩) hHeld ?restu17
  case hiu17 => simp only [List.getElem?_toArray, List.getElem?_cons_zero, List.getElem?_cons_succ]; rfl
  case hwu17 => rfl
  case hyu17 => (intro w9 hSw; (try dsimp only at hSw); go_simp; (try with_reducible rfl))
  case hQu17 => exact fun _ _ _ h => h
  (try simp only [Act.put, List.setIfInBounds_toArray, List.set_cons_zero, List.set_cons_succ])
  refine wpAnyH_take (i := 17) (oi := ?_) (v := ?_) ?hiu18 (by as_aux_lemma => kernel_rfl) (by as_aux_lemma => kernel_rfl) (by as_aux_lemma => kernel_rfl) ?hQu18 (Or.inl ⟨?hwu18, ?hyu18⟩) hHeld ?restu18
  case hiu18 => simp only [List.getElem?_toArray, List.getElem?_cons_zero, List.getElem?_cons_succ]; rfl
  case hwu18 => rfl
  case hyu18 => (intro w9 hSw; (try dsimp only at hSw); go_simp; (try with_reducible rfl))
  case hQu18 => exact fun _ _ _ h => h
  (try simp only [Act.put, List.setIfInBounds_toArray, List.set_cons_zero, List.set_cons_succ])
  refine wpAnyH_take (i := 18) (oi := ?_) (v := ?_) ?hiu19 (by as_aux_lemma => kernel_rfl) (by as_aux_lemma => kernel_rfl) (by as_aux_lemma => kernel_rfl) ?hQu19 (Or.inl ⟨?hwu19, ?hyu19⟩) hHeld ?restu19
  case hiu19 => simp only [List.getElem?_toArray, List.getElem?_cons_zero, List.getElem?_cons_succ]; rfl
  case hwu19 => rfl
  case hyu19 => (intro w9 hSw; (try dsimp only at hSw); go_simp; (try with_reducible rfl))
  case hQu19 => exact fun _ _ _ h => h
  (try simp only [Act.put, List.setIfInBounds_toArray, List.set_cons_zero, List.set_cons_succ])
  refine wpAnyH_take (i := 19) (oi := ?_) (v := ?_) ?hiu20 (by as_aux_lemma => kernel_rfl) (by as_aux_lemma => kernel_rfl) (by as_aux_lemma => kernel_rfl) ?hQu20 (Or.inl ⟨?hwu20, ?hyu20⟩) hHeld ?restu20
  case hiu20 => simp only [List.getElem?_toArray, List.getElem?_cons_zero, List.getElem?_cons_succ]; rfl
  case hwu20 => rfl
  case hyu20 => (intro w9 hSw; (try dsimp only at hSw); go_simp; (try with_reducible rfl))
  case hQu20 => exact fun _ _ _ h => h
  (try simp only [Act.put, List.setIfInBounds_toArray, List.set_cons_zero, List.set_cons_succ])
  refine wpAnyH_take (i := 20) (oi := ?_) (v := ?_) ?hiu21 (by as_aux_lemma => kernel_rfl) (by as_aux_lemma => kernel_rfl) (by as_aux_lemma => kernel_rfl) ?hQu21 (Or.inl ⟨?hwu21, ?hyu21⟩) hHeld ?restu21
  case hiu21 => simp only [List.getElem?_toArray, List.getElem?_cons_zero, List.getElem?_cons_succ]; rfl
  case hwu21 => rfl
  case hyu21 => (intro w9 hSw; (try dsimp only at hSw); go_simp; (try with_reducible rfl))
  case hQu21 => exact fun _ _ _ h => h
  (try simp only [Act.put, List.setIfInBounds_toArray, List.set_cons_zero, List.set_cons_succ])
  refine wpAnyH_take (i := 21) (oi := ?_) (v := ?_) ?hiu22 (by as_aux_lemma => kernel_rfl) (by as_aux_lemma => kernel_rfl) (by as_aux_lemma => kernel_rfl) ?hQu22 (Or.inl ⟨?hwu22, ?hyu22⟩) hHeld ?restu22
  case hiu22 => simp only [List.getElem?_toArray, List.getElem?_cons_zero, List.getElem?_cons_succ]; rfl
  case hwu22 => rfl
  case hyu22 => (intro w9 hSw; (try dsimp only at hSw); go_simp; (try with_reducible rfl))
  case hQu22 => exact fun _ _ _ h => h
  (try simp only [Act.put, List.setIfInBounds_toArray, List.set_cons_zero, List.set_cons_succ])
  refine wpAnyH_take (i := 22) (oi := ?_) (v := ?_) ?hiu23 (by as_aux_lemma => kernel_rfl) (by as_aux_lemma => kernel_rfl) (by as_aux_lemma => kernel_rfl) ?hQu23 (Or.inl ⟨?hwu23, ?hyu23⟩) hHeld ?restu23
  case hiu23 => simp only [List.getElem?_toArray, List.getElem?_cons_zero, List.getElem?_cons_succ]; rfl
  case hwu23 => rfl
  case hyu23 => (intro w9 hSw; (try dsimp only at hSw); go_simp; (try with_reducible rfl))
  case hQu23 => exact fun _ _ _ h => h
  (try simp only [Act.put, List.setIfInBounds_toArray, List.set_cons_zero, List.set_cons_succ])
  refine wpAnyH_take (i := 23) (oi := ?_) (v := ?_) ?hiu24 (by as_aux_lemma => kernel_rfl) (by as_aux_lemma => kernel_rfl) (by as_aux_lemma => kernel_rfl) ?hQu24 (Or.inl ⟨?hwu24, ?hyu24⟩) hHeld ?restu24
  case hiu24 => simp only [List.getElem?_toArray, List.getElem?_cons_zero, List.getElem?_cons_succ]; rfl
  case hwu24 => rfl
  case hyu24 => (intro w9 hSw; (try dsimp only at hSw); go_simp; (try with_reducible rfl))
  case hQu24 => exact fun _ _ _ h => h
  (try simp only [Act.put, List.setIfInBounds_toArray, List.set_cons_zero, List.set_cons_succ])
  refine wpAnyH_take (i := 24) (oi := ?_) (v := ?_) ?hiu25 (by as_aux_lemma => kernel_rfl) (by as_aux_lemma => kernel_rfl) (by as_aux_lemma => kernel_rfl) ?hQu25 (Or.inl ⟨?hwu25, ?hyu25⟩) hHeld ?restu25
  case hiu25 => simp only [List.getElem?_toArray, List.getElem?_cons_zero, List.getElem?_cons_succ]; rfl
  case hwu25 => rfl
  case hyu25 => (intro w9 hSw; (try dsimp only at hSw); go_simp; (try with_reducible rfl))
  case hQu25 => exact fun _ _ _ h => h
  (try simp only [Act.put, List.setIfInBounds_toArray, List.set_cons_zero, List.set_cons_succ])
  refine wpAnyH_take (i := 25) (oi := ?_) (v := ?_) ?hiu26 (by as_aux_lemma => kernel_rfl) (by as_aux_lemma => kernel_rfl) (by as_aux_lemma => kernel_rfl) ?hQu26 (Or.inl ⟨?hwu26, ?hyu26⟩) hHeld ?restu26
  case hiu26 => simp only [List.getElem?_toArray, List.getElem?_cons_zero, List.getElem?_cons_succ]; rfl
  case hwu26 => rfl
  case hyu26 => (intro w9 hSw; (try dsimp only at hSw); go_simp; (try with_reducible rfl))
  case hQu26 => exact fun _ _ _ h => h
  (try simp only [Act.put, List.setIfInBounds_toArray, List.set_cons_zero, List.set_cons_succ])
  refine wpAnyH_take (i := 26) (oi := ?_) (v := ?_) ?hiu27 (by as_aux_lemma => kernel_rfl) (by as_aux_lemma => kernel_rfl) (by as_aux_lemma => kernel_rfl) ?hQu27 (Or.inl ⟨?hwu27, ?hyu27⟩) hHeld ?restu27
  case hiu27 => simp only [List.getElem?_toArray, List.getElem?_cons_zero, List.getElem?_cons_succ]; rfl
  case hwu27 => rfl
  case hyu27 => (intro w9 hSw; (try dsimp only at hSw); go_simp; (try with_reducible rfl))
  case hQu27 => exact fun _ _ _ h => h
  (try simp only [Act.put, List.setIfInBounds_toArray, List.set_cons_zero, List.set_cons_succ])
  refine wpAnyH_take (i := 27) (oi := ?_) (v := ?_) ?hiu28 (by as_aux_lemma => kernel_rfl) (by as_aux_lemma => kernel_rfl) (by as_aux_lemma => kernel_rfl) ?hQu28 (Or.inl ⟨?hwu28, ?hyu28⟩) hHeld ?restu28
  case hiu28 => simp only [List.getElem?_toArray, List.getElem?_cons_zero, List.getElem?_cons_succ]; rfl
  case hwu28 => rfl
  case hyu28 => (intro w9 hSw; (try dsimp only at hSw); go_simp; (try with_reducible rfl))
  case hQu28 => exact fun _ _ _ h => h
  (try simp only [Act.put, List.setIfInBounds_toArray, List.set_cons_zero, List.set_cons_succ])
  refine wpAnyH_ready (rs := [28]) (by as_aux_lemma => kernel_rfl) (by simp) (AllReadyH.cons (o := ?_) ?hiu29 (fun K hK => ?_) AllReadyH.nil)
  case hiu29 => simp only [List.getElem?_toArray, List.getElem?_cons_zero, List.getElem?_cons_succ]; rfl
  go_simp
  refine hK.out _ _ ?_ (fun hHeld => ?_)
  · exact q13_below hq0 (bel1 _ _).drew
  clear hK K
  (try simp only [Act.put, List.setIfInBounds_toArray, List.set_cons_zero, List.set_cons_succ])
  refine wpAnyH_ready (rs := [29]) (by as_aux_lemma => kernel_rfl) (by simp) (AllReadyH.cons (o := ?_) ?hiu30 (fun K hK => ?_) AllReadyH.nil)
  case hiu30 => simp only [List.getElem?_toArray, List.getElem?_cons_zero, List.getElem?_cons_succ]; rfl
  go_simp
  refine hK.out _ _ ?_ (fun hHeld => ?_)
  · exact q13_below hq0 (bel1 _ _).drew
  clear hK K
  (try simp only [Act.put, List.setIfInBounds_toArray, List.set_cons_zero, List.set_cons_succ])
  refine wpAnyH_done (by as_aux_lemma => kernel_rfl) ?_ _
  go_wp2
  clear hHeld
  obtain ⟨w4, hw4⟩ : ∃ w4, (w3.alloc (.cells #[.int .i64 v1, .int .i64 d, .int .i64 v7, .int .i64 v8, .int .i64 v2, .int .i64 v3, .int .i64 0, .int .i64 v4, .int .i64 v5, .int .i64 v9, .int .i64 v6] 24)).drew = w4 := ⟨_, rfl⟩
  have hq4 : (g < w4.heap.size ∧ w4.cell? ⟨g, 0, none⟩ = some (.int .i64 d) ∧ w4.cell? ⟨g, 1, none⟩ = some (.int .i64 v1) ∧ w4.cell? ⟨g, 2, none⟩ = some (.int .i64 v2) ∧ w4.cell? ⟨g, 3, none⟩ = some (.int .i64 v3) ∧ w4.cell? ⟨g, 4, none⟩ = some (.int .i64 v4) ∧ w4.cell? ⟨g, 5, none⟩ = some (.int .i64 v5) ∧ w4.cell? ⟨g, 6, none⟩ = some (.int .i64 v6) ∧ w4.cell? ⟨g, 7, none⟩ = some (.int .i64 v7) ∧ w4.cell? ⟨g, 8, none⟩ = some (.int .i64 v8) ∧ w4.cell? ⟨g, 9, none⟩ = some (.int .i64 v9) ∧ w4.cell? ⟨g, 10, none⟩ = some (.int .i64 v10) ∧ w4.cell? ⟨g, 11, none⟩ = some (.int .i64 v11) ∧ w4.cell? ⟨g, 12, none⟩ = some (.int .i64 v12)) ∧ Below w3.heap.size w3 w4 := q13_below hq0 (by rw [← hw4]; exact (bel1 _ _).drew)
  have hG4 : w4.heap[w3.heap.size]? = some (.cells #[.int .i64 v1, .int .i64 d, .int .i64 v7, .int .i64 v8, .int .i64 v2, .int .i64 v3, .int .i64 0, .int .i64 v4, .int .i64 v5, .int .i64 v9, .int .i64 v6] 24 (0, 0)) := by rw [← hw4]; exact heap_alloc_new w3 _
  have ht4 : (w3.heap.size < w4.heap.size ∧ w4.cell? ⟨w3.heap.size, 0, none⟩ = some (.int .i64 v1) ∧ w4.cell? ⟨w3.heap.size, 1, none⟩ = some (.int .i64 d) ∧ w4.cell? ⟨w3.heap.size, 2, none⟩ = some (.int .i64 v7) ∧ w4.cell? ⟨w3.heap.size, 3, none⟩ = some (.int .i64 v8) ∧ w4.cell? ⟨w3.heap.size, 4, none⟩ = some (.int .i64 v2) ∧ w4.cell? ⟨w3.heap.size, 5, none⟩ = some (.int .i64 v3) ∧ w4.cell? ⟨w3.heap.size, 6, none⟩ = some (.int .i64 0) ∧ w4.cell? ⟨w3.heap.size, 7, none⟩ = some (.int .i64 v4) ∧ w4.cell? ⟨w3.heap.size, 8, none⟩ = some (.int .i64 v5) ∧ w4.cell? ⟨w3.heap.size, 9, none⟩ = some (.int .i64 v9) ∧ w4.cell? ⟨w3.heap.size, 10, none⟩ = some (.int .i64 v6)) ∧ Below w4.heap.size w4 w4 := ⟨⟨(Array.getElem?_eq_some_iff.1 hG4).1, (cell_of_row _ w3.heap.size 0 _ _ _ hG4).trans rfl, (cell_of_row _ w3.heap.size 1 _ _ _ hG4).trans rfl, (cell_of_row _ w3.heap.size 2 _ _ _ hG4).trans rfl, (cell_of_row _ w3.heap.size 3 _ _ _ hG4).trans rfl, (cell_of_row _ w3.heap.size 4 _ _ _ hG4).trans rfl, (cell_of_row _ w3.heap.size 5 _ _ _ hG4).trans rfl, (cell_of_row _ w3.heap.size 6 _ _ _ hG4).trans rfl, (cell_of_row _ w3.heap.size 7 _ _ _ hG4).trans rfl, (cell_of_row _ w3.heap.size 8 _ _ _ hG4).trans rfl, (cell_of_row _ w3.heap.size 9 _ _ _ hG4).trans rfl, (cell_of_row _ w3.heap.size 10 _ _ _ hG4).trans rfl⟩, Below.refl _ _⟩
  rw [hw4]
  have HW4 := Lib.hid hw4
  clear hw4
  have e10 : IntKind.i64.wrap 11 = 11 := by decide
  have e11 : IntKind.i64.wrap 12 = 12 := by decide
  refine wp_region_held_drew (S := fun w9 => ((g < w9.heap.size ∧ w9.cell? ⟨g, 0, none⟩ = some (.int .i64 d) ∧ w9.cell? ⟨g, 1, none⟩ = some (.int .i64 v1) ∧ w9.cell? ⟨g, 2, none⟩ = some (.int .i64 v2) ∧ w9.cell? ⟨g, 3, none⟩ = some (.int .i64 v3) ∧ w9.cell? ⟨g, 4, none⟩ = some (.int .i64 v4) ∧ w9.cell? ⟨g, 5, none⟩ = some (.int .i64 v5) ∧ w9.cell? ⟨g, 6, none⟩ = some (.int .i64 v6) ∧ w9.cell? ⟨g, 7, none⟩ = some (.int .i64 v7) ∧ w9.cell? ⟨g, 8, none⟩ = some (.int .i64 v8) ∧ w9.cell? ⟨g, 9, none⟩ = some (.int .i64 v9) ∧ w9.cell? ⟨g, 10, none⟩ = some (.int .i64 v10) ∧ w9.cell? ⟨g, 11, none⟩ = some (.int .i64 v11) ∧ w9.cell? ⟨g, 12, none⟩ = some (.int .i64 v12)) ∧ Below w3.heap.size w3 w9) ∧ ((w3.heap.size < w9.heap.size ∧ w9.cell? ⟨w3.heap.size, 0, none⟩ = some (.int .i64 v1) ∧ w9.cell? ⟨w3.heap.size, 1, none⟩ = some (.int .i64 d) ∧ w9.cell? ⟨w3.heap.size, 2, none⟩ = some (.int .i64 v7) ∧ w9.cell? ⟨w3.heap.size, 3, none⟩ = some (.int .i64 v8) ∧ w9.cell? ⟨w3.heap.size, 4, none⟩ = some (.int .i64 v2) ∧ w9.cell? ⟨w3.heap.size, 5, none⟩ = some (.int .i64 v3) ∧ w9.cell? ⟨w3.heap.size, 6, none⟩ = some (.int .i64 0) ∧ w9.cell? ⟨w3.heap.size, 7, none⟩ = some (.int .i64 v4) ∧ w9.cell? ⟨w3.heap.size, 8, none⟩ = some (.int .i64 v5) ∧ w9.cell? ⟨w3.heap.size, 9, none⟩ = some (.int .i64 v9) ∧ w9.cell? ⟨w3.heap.size, 10, none⟩ = some (.int .i64 v6)) ∧ Below w4.heap.size w4 w9)) (by as_aux_lemma => kernel_rfl) ⟨⟨hq4.1, hq4.2.drew⟩, ⟨ht4.1, ht4.2.drew⟩⟩ (fun hHeld => ?_)
  refine wpAnyH_take (i := 0) (oi := ?_) (v := ?_) ?hiu31 (by as_aux_lemma => kernel_rfl) (by as_aux_lemma => kernel_rfl) (by as_aux_lemma => kernel_rfl) ?hQu31 (Or.inl ⟨?hwu31, ?hyu31⟩) hHeld ?restu31
  case hiu31 => simp only [List.getElem?_toArray, List.getElem?_cons_zero, List.getElem?_cons_succ]; rfl
  case hwu31 => rfl
  case hyu31 => (intro w9 hSw; (try dsimp only at hSw); go_simp; (try with_reducible rfl))
  case hQu31 => exact fun _ _ _ h => h
  (try simp only [Act.put, List.setIfInBounds_toArray, List.set_cons_zero, List.set_cons_succ])
  refine wpAnyH_take (i := 1) (oi := ?_) (v := ?_) ?hiu32 (by as_aux_lemma => kernel_rfl) (by as_aux_lemma => kernel_rfl) (by as_aux_lemma => kernel_rfl) ?hQu32 (Or.inl ⟨?hwu32, ?hyu32⟩) hHeld ?restu32
  case hiu32 => simp only [List.getElem?_toArray, List.getElem?_cons_zero, List.getElem?_cons_succ]; rfl
  case hwu32 => rfl
  case hyu32 => (intro w9 hSw; (try dsimp only at hSw); go_simp; (try with_reducible rfl))
  case hQu32 => exact fun _ _ _ h => h
  (try simp only [Act.put, List.setIfInBounds_toArray, List.set_cons_zero, List.set_cons_succ])
  refine wpAnyH_take (i := 2) (oi := ?_) (v := ?_) ?hiu33 (by as_aux_lemma => kernel_rfl) (by as_aux_lemma => kernel_rfl) (by as_aux_lemma => kernel_rfl) ?hQu33 (Or.inl ⟨?hwu33, ?hyu33⟩) hHeld ?restu33
  case hiu33 => simp only [List.getElem?_toArray, List.getElem?_cons_zero, List.getElem?_cons_succ]; rfl
  case hwu33 => rfl
  case hyu33 => (intro w9 hSw; (try dsimp only at hSw); go_simp; (try with_reducible rfl))
  case hQu33 => exact fun _ _ _ h => h
  (try simp only [Act.put, List.setIfInBounds_toArray, List.set_cons_zero, List.set_cons_succ])
  refine wpAnyH_take (i := 3) (oi := ?_) (v := ?_) ?hiu34 (by as_aux_lemma => kernel_rfl) (by as_aux_lemma => kernel_rfl) (by as_aux_lemma => kernel_rfl) ?hQu34 (Or.inl ⟨?hwu34, ?hyu34⟩) hHeld ?restu34
  case hiu34 => simp only [List.getElem?_toArray, List.getElem?_cons_zero, List.getElem?_cons_succ]; rfl
  case hwu34 => rfl
  case hyu34 => (intro w9 hSw; (try dsimp only at hSw); go_simp; (try with_reducible rfl))
  case hQu34 => exact fun _ _ _ h => h
  (try simp only [Act.put, List.setIfInBounds_toArray, List.set_cons_zero, List.set_cons_succ])
  refine wpAnyH_take (i := 4) (oi := ?_) (v := ?_) ?hiu35 (by as_aux_lemma => kernel_rfl) (by as_aux_lemma => kernel_rfl) (by as_aux_lemma => kernel_rfl) ?hQu35 (Or.inl ⟨?hwu35, ?hyu35⟩) hHeld ?restu35
  case hiu35 => simp only [List.getElem?_toArray, List.getElem?_cons_zero, List.getElem?_cons_succ]; rfl
  case hwu35 => rfl
  case hyu35 => (intro w9 hSw; (try dsimp only at hSw); go_simp; (try with_reducible rfl))
  case hQu35 => exact fun _ _ _ h => h
  (try simp only [Act.put, List.setIfInBounds_toArray, List.set_cons_zero, List.set_cons_succ])
  refine wpAnyH_take (i := 5) (oi := ?_) (v := ?_) ?hiu36 (by as_aux_lemma => kernel_rfl) (by as_aux_lemma => kernel_rfl) (by as_aux_lemma => kernel_rfl) ?hQu36 (Or.inl ⟨?hwu36, ?hyu36⟩) hHeld ?restu36
  case hiu36 => simp only [List.getElem?_toArray, List.getElem?_cons_zero, List.getElem?_cons_succ]; rfl
  case hwu36 => rfl
  case hyu36 => (intro w9 hSw; (try dsimp only at hSw); go_simp; (try with_reducible rfl))
  case hQu36 => exact fun _ _ _ h => h
  (try simp only [Act.put, List.setIfInBounds_toArray, List.set_cons_zero, List.set_cons_succ])
  refine wpAnyH_take (i := 6) (oi := ?_) (v := ?_) ?hiu37 (by as_aux_lemma => kernel_rfl) (by as_aux_lemma => kernel_rfl) (by as_aux_lemma => kernel_rfl) ?hQu37 (Or.inl ⟨?hwu37, ?hyu37⟩) hHeld ?restu37
  case hiu37 => simp only [List.getElem?_toArray, List.getElem?_cons_zero, List.getElem?_cons_succ]; rfl
  case hwu37 => rfl
  case hyu37 => (intro w9 hSw; (try dsimp only at hSw); go_simp; (try with_reducible rfl))
  case hQu37 => exact fun _ _ _ h => h
  (try simp only [Act.put, List.setIfInBounds_toArray, List.set_cons_zero, List.set_cons_succ])
  refine wpAnyH_take (i := 7) (oi := ?_) (v := ?_) ?hiu38 (by as_aux_lemma => kernel_rfl) (by as_aux_lemma => kernel_rfl) (by as_aux_lemma => kernel_rfl) ?hQu38 (Or.inl ⟨?hwu38, ?hyu38⟩) hHeld ?restu38
  case hiu38 => simp only [List.getElem?_toArray, List.getElem?_cons_zero, List.getElem?_cons_succ]; rfl
  case hwu38 => rfl
  case hyu38 => (intro w9 hSw; (try dsimp only at hSw); go_simp; (try with_reducible rfl))
  case hQu38 => exact fun _ _ _ h => h
  (try simp only [Act.put, List.setIfInBounds_toArray, List.set_cons_zero, List.set_cons_succ])
  refine wpAnyH_take (i := 8) (oi := ?_) (v := ?_) ?hiu39 (by as_aux_lemma => kernel_rfl) (by as_aux_lemma => kernel_rfl) (by as_aux_lemma => kernel_rfl) ?hQu39 (Or.inl ⟨?hwu39, ?hyu39⟩) hHeld ?restu39
  case hiu39 => simp only [List.getElem?_toArray, List.getElem?_cons_zero, List.getElem?_cons_succ]; rfl
  case hwu39 => rfl
  case hyu39 => (intro w9 hSw; (try dsimp only at hSw); go_simp; (try with_reducible rfl))
  case hQu39 => exact fun _ _ _ h => h
  (try simp only [Act.put, List.setIfInBounds_toArray, List.set_cons_zero, List.set_cons_succ])
  refine wpAnyH_take (i := 9) (oi := ?_) (v := ?_) ?hiu40 (by as_aux_lemma => kernel_rfl) (by as_aux_lemma => kernel_rfl) (by as_aux_lemma => kernel_rfl) ?hQu40 (Or.inl ⟨?hwu40, ?hyu40⟩) hHeld ?restu40
  case hiu40 => simp only [List.getElem?_toArray, List.getElem?_cons_zero, List.getElem?_cons_succ]; rfl
  case hwu40 => rfl
  case hyu40 => (intro w9 hSw; (try dsimp only at hSw); go_simp; (try with_reducible rfl))
  case hQu40 => exact fun _ _ _ h => h
  (try simp only [Act.put, List.setIfInBounds_toArray, List.set_cons_zero, List.set_cons_succ])
  refine wpAnyH_take (i := 10) (oi := ?_) (v := ?_) ?hiu41 (by as_aux_lemma => kernel_rfl) (by as_aux_lemma => kernel_rfl) (by as_aux_lemma => kernel_rfl) ?hQu41 (Or.inl ⟨?hwu41, ?hyu41⟩) hHeld ?restu41
  case hiu41 => simp only [List.getElem?_toArray, List.getElem?_cons_zero, List.getElem?_cons_succ]; rfl
  case hwu41 => rfl
  case hyu41 => (intro w9 hSw; (try dsimp only at hSw); go_simp; (try with_reducible rfl))
  case hQu41 => exact fun _ _ _ h => h
  (try simp only [Act.put, List.setIfInBounds_toArray, List.set_cons_zero, List.set_cons_succ])
  refine wpAnyH_take (i := 11) (oi := ?_) (v := ?_) ?hiu42 (by as_aux_lemma => kernel_rfl) (by as_aux_lemma => kernel_rfl) (by as_aux_lemma => kernel_rfl) ?hQu42 (Or.inl ⟨?hwu42, ?hyu42⟩) hHeld ?restu42
  case hiu42 => simp only [List.getElem?_toArray, List.getElem?_cons_zero, List.getElem?_cons_succ]; rfl
  case hwu42 => rfl
  case hyu42 => (intro w9 hSw; (try dsimp only at hSw); go_simp; (try with_reducible rfl))
  case hQu42 => exact fun _ _ _ h => h
  (try simp only [Act.put, List.setIfInBounds_toArray, List.set_cons_zero, List.set_cons_succ])
  refine wpAnyH_take (i := 12) (oi := ?_) (v := ?_) ?hiu43 (by as_aux_lemma => kernel_rfl) (by as_aux_lemma => kernel_rfl) (by as_aux_lemma => kernel_rfl) ?hQu43 (Or.inl ⟨?hwu43, ?hyu43⟩) hHeld ?restu43
  case hiu43 => simp only [List.getElem?_toArray, List.getElem?_cons_zero, List.getElem?_cons_succ]; rfl
  case hwu43 => rfl
  case hyu43 => (intro w9 hSw; (try dsimp only at hSw); go_simp; (try with_reducible rfl))
  case hQu43 => exact fun _ _ _ h => h
  (try simp only [Act.put, List.setIfInBounds_toArray, List.set_cons_zero, List.set_cons_succ])
  refine wpAnyH_take (i := 13) (oi := ?_) (v := ?_) ?hiu44 (by as_aux_lemma => kernel_rfl) (by as_aux_lemma => kernel_rfl) (by as_aux_lemma => kernel_rfl) ?hQu44 (Or.inl ⟨?hwu44, ?hyu44⟩) hHeld ?restu44
  case hiu44 => simp only [List.getElem?_toArray, List.getElem?_cons_zero, List.getElem?_cons_succ]; rfl
  case hwu44 => rfl
  case hyu44 => (intro w9 hSw; (try dsimp only at hSw); go_simp; (try with_reducible rfl))
  case hQu44 => exact fun _ _ _ h => h
  (try simp only [Act.put, List.setIfInBounds_toArray, List.set_cons_zero, List.set_cons_succ])
  refine wpAnyH_take (i := 14) (oi := ?_) (v := ?_) ?hiu45 (by as_aux_lemma => kernel_rfl) (by as_aux_lemma => kernel_rfl) (by as_aux_lemma => kernel_rfl) ?hQu45 (Or.inl ⟨?hwu45, ?hyu45⟩) hHeld ?restu45
  case hiu45 => simp only [List.getElem?_toArray, List.getElem?_cons_zero, List.getElem?_cons_succ]; rfl
  case hwu45 => rfl
  case hyu45 => (intro w9 hSw; (try dsimp only at hSw); go_simp; (try with_reducible rfl))
  case hQu45 => exact fun _ _ _ h => h
  (try simp only [Act.put, List.setIfInBounds_toArray, List.set_cons_zero, List.set_cons_succ])
  refine wpAnyH_take (i := 15) (oi := ?_) (v := ?_) ?hiu46 (by as_aux_lemma => kernel_rfl) (by as_aux_lemma => kernel_rfl) (by as_aux_lemma => kernel_rfl) ?hQu46 (Or.inl ⟨?hwu46, ?hyu46⟩) hHeld ?restu46
  case hiu46 => simp only [List.getElem?_toArray, List.getElem?_cons_zero, List.getElem?_cons_succ]; rfl
  case hwu46 => rfl
  case hyu46 => (intro w9 hSw; (try dsimp only at hSw); go_simp; (try with_reducible rfl))
  case hQu46 => exact fun _ _ _ h => h
  (try simp only [Act.put, List.setIfInBounds_toArray, List.set_cons_zero, List.set_cons_succ])
  refine wpAnyH_take (i := 16) (oi := ?_) (v := ?_) ?hiu47 (by as_aux_lemma => kernel_rfl) (by as_aux_lemma => kernel_rfl) (by as_aux_lemma => kernel_rfl) ?hQu47 (Or.inl ⟨?hwu47, ?hyu47⟩) hHeld ?restu47
  case hiu47 => simp only [List.getElem?_toArray, List.getElem?_cons_zero, List.getElem?_cons_succ]; rfl
  case hwu47 => rfl
  case hyu47 => (intro w9 hSw; (try dsimp only at hSw); go_simp; (try with_reducible rfl))
  case hQu47 => exact fun _ _ _ h => h
  (try simp only [Act.put, List.setIfInBounds_toArray, List.set_cons_zero, List.set_cons_succ])
  refine wpAnyH_ready (rs := [17]) (by as_aux_lemma => kernel_rfl) (by simp) (AllReadyH.cons (o := ?_) ?hiu48 (fun K hK => ?_) AllReadyH.nil)
  case hiu48 => simp only [List.getElem?_toArray, List.getElem?_cons_zero, List.getElem?_cons_succ]; rfl
  go_simp
  refine hK.out _ _ ?_ (fun hHeld => ?_)
  · exact ⟨q13_below hq4 (bel1 _ _).drew, q11_below ht4 (bel1 _ _).drew⟩
  clear hK K
  (try simp only [Act.put, List.setIfInBounds_toArray, List.set_cons_zero, List.set_cons_succ])
  refine wpAnyH_ready (rs := [18]) (by as_aux_lemma => kernel_rfl) (by simp) (AllReadyH.cons (o := ?_) ?hiu49 (fun K hK => ?_) AllReadyH.nil)
  case hiu49 => simp only [List.getElem?_toArray, List.getElem?_cons_zero, List.getElem?_cons_succ]; rfl
  go_simp
  refine hK.out _ _ ?_ (fun hHeld => ?_)
  · exact ⟨q13_below hq4 (bel1 _ _).drew, q11_below ht4 (bel1 _ _).drew⟩
  clear hK K
  (try simp only [Act.put, List.setIfInBounds_toArray, List.set_cons_zero, List.set_cons_succ])
  refine wpAnyH_done (by as_aux_lemma => kernel_rfl) ?_ _
  clear hHeld
  obtain ⟨w5, hw5⟩ : ∃ w5, (w4.alloc (.cells #[.int .i64 v1, .int .i64 d, .int .i64 v7, .int .i64 v8, .int .i64 v2, .int .i64 v3, .int .i64 0, .int .i64 v4, .int .i64 v5, .int .i64 v9, .int .i64 v6, .int .i64 v12, .int .i64 v10, .int .i64 v11, .int .i64 0] 28)).drew = w5 := ⟨_, rfl⟩
  have hb45 : Below w4.heap.size w4 w5 := by rw [← hw5]; exact (bel1 _ _).drew
  have hq5 := q13_below hq4 hb45
  have ht5 := (q11_below ht4 hb45).1
  have hG5 : w5.heap[w4.heap.size]? = some (.cells #[.int .i64 v1, .int .i64 d, .int .i64 v7, .int .i64 v8, .int .i64 v2, .int .i64 v3, .int .i64 0, .int .i64 v4, .int .i64 v5, .int .i64 v9, .int .i64 v6, .int .i64 v12, .int .i64 v10, .int .i64 v11, .int .i64 0] 28 (0, 0)) := by rw [← hw5]; exact heap_alloc_new w4 _
  have hr5 : (w4.heap.size < w5.heap.size ∧ w5.cell? ⟨w4.heap.size, 0, none⟩ = some (.int .i64 v1) ∧ w5.cell? ⟨w4.heap.size, 1, none⟩ = some (.int .i64 d) ∧ w5.cell? ⟨w4.heap.size, 2, none⟩ = some (.int .i64 v7) ∧ w5.cell? ⟨w4.heap.size, 3, none⟩ = some (.int .i64 v8) ∧ w5.cell? ⟨w4.heap.size, 4, none⟩ = some (.int .i64 v2) ∧ w5.cell? ⟨w4.heap.size, 5, none⟩ = some (.int .i64 v3) ∧ w5.cell? ⟨w4.heap.size, 6, none⟩ = some (.int .i64 0) ∧ w5.cell? ⟨w4.heap.size, 7, none⟩ = some (.int .i64 v4) ∧ w5.cell? ⟨w4.heap.size, 8, none⟩ = some (.int .i64 v5) ∧ w5.cell? ⟨w4.heap.size, 9, none⟩ = some (.int .i64 v9) ∧ w5.cell? ⟨w4.heap.size, 10, none⟩ = some (.int .i64 v6) ∧ w5.cell? ⟨w4.heap.size, 11, none⟩ = some (.int .i64 v12) ∧ w5.cell? ⟨w4.heap.size, 12, none⟩ = some (.int .i64 v10) ∧ w5.cell? ⟨w4.heap.size, 13, none⟩ = some (.int .i64 v11) ∧ w5.cell? ⟨w4.heap.size, 14, none⟩ = some (.int .i64 0)) ∧ Below w5.heap.size w5 w5 := ⟨⟨(Array.getElem?_eq_some_iff.1 hG5).1, (cell_of_row _ w4.heap.size 0 _ _ _ hG5).trans rfl, (cell_of_row _ w4.heap.size 1 _ _ _ hG5).trans rfl, (cell_of_row _ w4.heap.size 2 _ _ _ hG5).trans rfl, (cell_of_row _ w4.heap.size 3 _ _ _ hG5).trans rfl, (cell_of_row _ w4.heap.size 4 _ _ _ hG5).trans rfl, (cell_of_row _ w4.heap.size 5 _ _ _ hG5).trans rfl, (cell_of_row _ w4.heap.size 6 _ _ _ hG5).trans rfl, (cell_of_row _ w4.heap.size 7 _ _ _ hG5).trans rfl, (cell_of_row _ w4.heap.size 8 _ _ _ hG5).trans rfl, (cell_of_row _ w4.heap.size 9 _ _ _ hG5).trans rfl, (cell_of_row _ w4.heap.size 10 _ _ _ hG5).trans rfl, (cell_of_row _ w4.heap.size 11 _ _ _ hG5).trans rfl, (cell_of_row _ w4.heap.size 12 _ _ _ hG5).trans rfl, (cell_of_row _ w4.heap.size 13 _ _ _ hG5).trans rfl, (cell_of_row _ w4.heap.size 14 _ _ _ hG5).trans rfl⟩, Below.refl _ _⟩
  have hgO := (hq5.2.block w.heap.size hz4).trans hg3.out
  have HBr := Lib.hid (bT HB3.out hq5.2)
  have hzr : w.heap.size < w5.heap.size := Nat.lt_of_lt_of_le hz4 hq5.2.size
  rw [hw5]
  have ht5' : (w3.heap.size < w5.heap.size ∧ w5.cell? ⟨w3.heap.size, 0, none⟩ = some (.int .i64 v1) ∧ w5.cell? ⟨w3.heap.size, 1, none⟩ = some (.int .i64 d) ∧ w5.cell? ⟨w3.heap.size, 2, none⟩ = some (.int .i64 v7) ∧ w5.cell? ⟨w3.heap.size, 3, none⟩ = some (.int .i64 v8) ∧ w5.cell? ⟨w3.heap.size, 4, none⟩ = some (.int .i64 v2) ∧ w5.cell? ⟨w3.heap.size, 5, none⟩ = some (.int .i64 v3) ∧ w5.cell? ⟨w3.heap.size, 6, none⟩ = some (.int .i64 0) ∧ w5.cell? ⟨w3.heap.size, 7, none⟩ = some (.int .i64 v4) ∧ w5.cell? ⟨w3.heap.size, 8, none⟩ = some (.int .i64 v5) ∧ w5.cell? ⟨w3.heap.size, 9, none⟩ = some (.int .i64 v9) ∧ w5.cell? ⟨w3.heap.size, 10, none⟩ = some (.int .i64 v6)) ∧ Below w5.heap.size w5 w5 := ⟨ht5, Below.refl _ _⟩
  clear hw5 hG5 hG4 ht4 hq4 hq0 hq5 hb45 HB3 HW4 hgb hgl ht5
  have hz : ∀ W9 : World, Below w5.heap.size w5 W9 → (∀ o, o < 15 → W9.cell? ⟨w.heap.size, o, none⟩ = some (.int .i64 0)) ∧ (∀ o, W9.frozen? ⟨w.heap.size, o, none⟩ = false) ∧ w.heap.size < W9.heap.size ∧ W9.heap[w.heap.size]? = some (.cells #[.int .i64 0, .int .i64 0, .int .i64 0, .int .i64 0, .int .i64 0, .int .i64 0, .int .i64 0, .int .i64 0, .int .i64 0, .int .i64 0, .int .i64 0, .int .i64 0, .int .i64 0, .int .i64 0, .int .i64 0] 28 (0, 0)) ∧ Below w.heap.size w W9 := by
    intro W9 hb
    have hg := (hb.block w.heap.size hzr).trans hgO
    refine ⟨?_, by intro o; simp [World.frozen?, hg], Nat.lt_of_lt_of_le hzr hb.size, hg, bT HBr.out hb⟩
    intro o ho
    rw [cell_of_row _ w.heap.size o _ _ _ hg]
    have : o = 0 ∨ o = 1 ∨ o = 2 ∨ o = 3 ∨ o = 4 ∨ o = 5 ∨ o = 6 ∨ o = 7 ∨ o = 8 ∨ o = 9 ∨ o = 10 ∨ o = 11 ∨ o = 12 ∨ o = 13 ∨ o = 14 := by omega
    rcases this with rfl | rfl | rfl | rfl | rfl | rfl | rfl | rfl | rfl | rfl | rfl | rfl | rfl | rfl | rfl <;> rfl
  have HZ := Lib.hid hz
  clear hz hgO HBr
  cases hT : tkB v1 d v7 v8 v2 v3 0 v4 v5 v9 v6 with
  | false =>
    have E := Lib.hid (show layG L = (zeroC, 9) by rw [HX.out]; simp [okC, hT])
    go_wp2_with (go_at_call 98; (with_reducible refine (refIs_any v1 d v7 v8 v2 v3 0 v4 v5 v9 v6 _).mono ?_); rintro e w6 ⟨rfl, hb6⟩; have hr6 := qr_below hr5 hb6; have ht6 := q11_below ht5' hb6; obtain ⟨hcz, hfz, hzZ, hgZ, hBZ⟩ := HZ.out _ hr6.2; have HGZ := Lib.hid hgZ; have HBZ := Lib.hid hBZ; clear hgZ hBZ)
    exact ⟨rfl, refGetOut (c := zeroC) rfl rfl (row_set (row_set (row_set (row_set (row_set (row_set (row_set (row_set (row_set (row_set (row_set (row_set (row_set (row_set (row_set HGZ.out 0 _) 1 _) 2 _) 3 _) 4 _) 5 _) 6 _) 7 _) 8 _) 9 _) 10 _) 11 _) 12 _) 13 _) 14 _) rfl E.out (by have h := HBZ.out; repeat (first | (with_reducible exact bR _) | (with_reducible refine bT ?_ (by assumption)) | (with_reducible apply bA) | (with_reducible apply bD) | (with_reducible apply bN) | (with_reducible refine bS ?_ (by first | omega | (simp; done) | (simp; omega)))))⟩
  | true =>
  cases hU : suB v9 v10 v11 with
  | false =>
    have E := Lib.hid (show layG L = (zeroC, 9) by rw [HX.out]; simp [okC, hT, hU])
    go_wp2_with (first | (go_at_call 98; (with_reducible refine (refIs_any v1 d v7 v8 v2 v3 0 v4 v5 v9 v6 _).mono ?_); rintro e w6 ⟨rfl, hb6⟩; have hr6 := qr_below hr5 hb6; have ht6 := q11_below ht5' hb6; obtain ⟨hcz, hfz, hzZ, hgZ, hBZ⟩ := HZ.out _ hr6.2; have HGZ := Lib.hid hgZ; have HBZ := Lib.hid hBZ; clear hgZ hBZ) | (go_at_call 99; (with_reducible refine (refSuits_any v1 d v7 v8 v2 v3 0 v4 v5 v9 v6 v10 v11 _).mono ?_); rintro e w7 ⟨rfl, hb7⟩; have hr7 := qr_below hr6 hb7; obtain ⟨hcz, hfz, hzZ, hgZ, hBZ⟩ := HZ.out _ hr7.2; have HGZ := Lib.hid hgZ; have HBZ := Lib.hid hBZ; clear hgZ hBZ))
    exact ⟨rfl, refGetOut (c := zeroC) rfl rfl (row_set (row_set (row_set (row_set (row_set (row_set (row_set (row_set (row_set (row_set (row_set (row_set (row_set (row_set (row_set HGZ.out 0 _) 1 _) 2 _) 3 _) 4 _) 5 _) 6 _) 7 _) 8 _) 9 _) 10 _) 11 _) 12 _) 13 _) 14 _) rfl E.out (by have h := HBZ.out; repeat (first | (with_reducible exact bR _) | (with_reducible refine bT ?_ (by assumption)) | (with_reducible apply bA) | (with_reducible apply bD) | (with_reducible apply bN) | (with_reducible refine bS ?_ (by first | omega | (simp; done) | (simp; omega)))))⟩
  | true =>
    have E := Lib.hid (show layG L = ([v1, d, v7, v8, v2, v3, 0, v4, v5, v9, v6, v12, v10, v11, 0], 0) by rw [HX.out]; simp [okC, hT, hU])
    go_wp2_with (first | (go_at_call 98; (with_reducible refine (refIs_any v1 d v7 v8 v2 v3 0 v4 v5 v9 v6 _).mono ?_); rintro e w6 ⟨rfl, hb6⟩; have hr6 := qr_below hr5 hb6; have ht6 := q11_below ht5' hb6; obtain ⟨hcz, hfz, hzZ, hgZ, hBZ⟩ := HZ.out _ hr6.2; have HGZ := Lib.hid hgZ; have HBZ := Lib.hid hBZ; clear hgZ hBZ) | (go_at_call 99; (with_reducible refine (refSuits_any v1 d v7 v8 v2 v3 0 v4 v5 v9 v6 v10 v11 _).mono ?_); rintro e w7 ⟨rfl, hb7⟩; have hr7 := qr_below hr6 hb7; obtain ⟨hcz, hfz, hzZ, hgZ, hBZ⟩ := HZ.out _ hr7.2; have HGZ := Lib.hid hgZ; have HBZ := Lib.hid hBZ; clear hgZ hBZ))
    exact ⟨rfl, refGetOut (c := [v1, d, v7, v8, v2, v3, 0, v4, v5, v9, v6, v12, v10, v11, 0]) rfl rfl ((set15 _ _ _ _ _ _ _ _ _ _ _ _ _ _ _ HGZ.out).trans rfl) rfl E.out (by have h := HBZ.out; repeat (first | (with_reducible exact bR _) | (with_reducible refine bT ?_ (by assumption)) | (with_reducible apply bA) | (with_reducible apply bD) | (with_reducible apply bN) | (with_reducible refine bS ?_ (by first | omega | (simp; done) | (simp; omega)))))⟩

set_option maxHeartbeats 8000000 in
set_option maxRecDepth 100000 in
theorem refGet_g3 (ad : Addr) (c : Nat) (d : Int) (l' : List Int) (w : World) (hr : RdI w .u8 (some ad) (d :: l')) (hlc : (d :: l').length ≤ c) (hc9 : c ≤ 9223372036854775807) (hb : ∀ x ∈ d :: l', 0 ≤ x ∧ x < 256)
    (hcd : (w.alloc (.cells #[.int .i64 0, .int .i64 0, .int .i64 0, .int .i64 0, .int .i64 0, .int .i64 0, .int .i64 0, .int .i64 0, .int .i64 0, .int .i64 0, .int .i64 0, .int .i64 0, .int .i64 0, .int .i64 0, .int .i64 0] 28)).cell? ad = some (.int .u8 d)) (h9 : ¬ 9 < d) (h8 : wsE d = 0) (h7 : (splitR (d :: l') (wsL d)).2 = 0) (h4 : ¬ d = 4) :
    Calls Tryz.prog 53 #[.slice (some ad) (d :: l').length c] w (GetRet (layG (d :: l')) w) := by
  have hlt : 0 < (d :: l').length := by simp
  have d0 : (((d :: l').length : Int) == 0) = false := by simp; omega
  have hbd := hb d List.mem_cons_self
  obtain ⟨m, hm⟩ : ∃ m, (d :: l').length = m := ⟨_, rfl⟩
  have hlt2 : 0 < m := by omega
  have d9 : decide (9 < d) = false := by simpa using h9
  have d4 : (d == 4) = false := by simpa using h4
  have H4 := Lib.hid h4
  clear h4
  have hk := wsE_kind h8
  have hwl := wsL_le d
  obtain ⟨L, hL⟩ : ∃ L, d :: l' = L := ⟨_, rfl⟩
  rw [hL] at hr hlc hb hm d0 h7 ⊢
  have HLL := Lib.hid hL
  subst hm
  clear hL
  have hd0 : 0 ≤ d := by omega
  have hd4 : d ≤ 4 := by omega
  go_enter Tryz.func53, Tryz.ntmps53
  go_wp2_with fail
  refine (refWidths_any d _).mono ?_
  rintro e w2 ⟨u, rfl, uo, hb2⟩
  obtain ⟨uA, uc, rfl, _, _⟩ := own_slice uo
  have ur := RdI.of_own uo
  have hr2 := (hr.below (bel1 w _)).below hb2
  have hg2 := (hb2.block w.heap.size (by simp)).trans (heap_alloc_new w _)
  have HB2 := Lib.hid (bT (bel1 w _) hb2)
  clear uo hb2
  go_wp2_with fail
  refine (refSplit_any (some ad) uA c uc L (wsL d) _ hr2 ur hlc hc9 (by omega) hb).mono ?_
  rintro e w3 ⟨z, rfl, zo, hb3⟩
  have hz3 : w.heap.size < w2.heap.size := (Array.getElem?_eq_some_iff.1 hg2).1
  have hg3 := Lib.hid ((hb3.block w.heap.size hz3).trans hg2)
  have HB3 := Lib.hid (bT HB2.out hb3)
  clear hg2 hr2 ur
  have hz4 : w.heap.size < w3.heap.size := by have := hb3.size; omega
  clear hb3
  have hvl := splitR_vlen h7
  obtain ⟨ws, hws⟩ := wsL_head (show ¬ d < 1 by omega) (show ¬ 4 < d by omega)
  obtain ⟨V', hV'⟩ := splitR_head (d := d) (l := l') (ws := ws) (by omega) (by rw [← hws, HLL.out]; exact h7)
  rw [← hws, HLL.out] at hV'
  have hE0 : layG L = if okC (cellsOf d (d :: V')) = true then (cellsOf d (d :: V'), 0) else (zeroC, 9) := by
    rw [← HLL.out, layG_cons, HLL.out, if_neg (by omega), if_neg (by simp [h8]), if_neg (by simp [h7]), hV']
  rw [hV'] at zo hvl
  clear hws hV'
  have hl : (wsL d).length = 12 := by have h4 := H4.out; unfold wsL; rw [if_neg (by omega)]; split <;> simp_all
  obtain ⟨v1, v2, v3, v4, v5, v6, v7, v8, v9, v10, v11, rfl⟩ : ∃ v1 v2 v3 v4 v5 v6 v7 v8 v9 v10 v11, V' = [v1, v2, v3, v4, v5, v6, v7, v8, v9, v10, v11] := by
    rw [hl] at hvl
    rcases V' with _ | ⟨v1, _ | ⟨v2, _ | ⟨v3, _ | ⟨v4, _ | ⟨v5, _ | ⟨v6, _ | ⟨v7, _ | ⟨v8, _ | ⟨v9, _ | ⟨v10, _ | ⟨v11, _ | ⟨v12, t⟩⟩⟩⟩⟩⟩⟩⟩⟩⟩⟩⟩ <;> simp at hvl
    exact ⟨_, _, _, _, _, _, _, _, _, _, _, rfl⟩
  obtain ⟨g, cap, rfl, hgl, hgb, hcap⟩ : ∃ g cap, z = .slice (some ⟨g, 0, none⟩) 12 cap ∧ g < w3.heap.size ∧ w2.heap.size ≤ g ∧ 12 ≤ cap := by
    rcases zo.2 with ⟨_, h0⟩ | ⟨g, cap, cur, rfl, hg, hh, hq, _⟩
    · simp at h0
    · exact ⟨g, cap, rfl, (Array.getElem?_eq_some_iff.1 hh).1, by simpa using hg, by simpa using hq⟩
  have hq0 : (g < w3.heap.size ∧ w3.cell? ⟨g, 0, none⟩ = some (.int .i64 d) ∧ w3.cell? ⟨g, 1, none⟩ = some (.int .i64 v1) ∧ w3.cell? ⟨g, 2, none⟩ = some (.int .i64 v2) ∧ w3.cell? ⟨g, 3, none⟩ = some (.int .i64 v3) ∧ w3.cell? ⟨g, 4, none⟩ = some (.int .i64 v4) ∧ w3.cell? ⟨g, 5, none⟩ = some (.int .i64 v5) ∧ w3.cell? ⟨g, 6, none⟩ = some (.int .i64 v6) ∧ w3.cell? ⟨g, 7, none⟩ = some (.int .i64 v7) ∧ w3.cell? ⟨g, 8, none⟩ = some (.int .i64 v8) ∧ w3.cell? ⟨g, 9, none⟩ = some (.int .i64 v9) ∧ w3.cell? ⟨g, 10, none⟩ = some (.int .i64 v10) ∧ w3.cell? ⟨g, 11, none⟩ = some (.int .i64 v11)) ∧ Below w3.heap.size w3 w3 := ⟨⟨hgl, (zo.cellAt 0 (by simp)).trans rfl, (zo.cellAt 1 (by simp)).trans rfl, (zo.cellAt 2 (by simp)).trans rfl, (zo.cellAt 3 (by simp)).trans rfl, (zo.cellAt 4 (by simp)).trans rfl, (zo.cellAt 5 (by simp)).trans rfl, (zo.cellAt 6 (by simp)).trans rfl, (zo.cellAt 7 (by simp)).trans rfl, (zo.cellAt 8 (by simp)).trans rfl, (zo.cellAt 9 (by simp)).trans rfl, (zo.cellAt 10 (by simp)).trans rfl, (zo.cellAt 11 (by simp)).trans rfl⟩, Below.refl _ _⟩
  have hE1 : layG L = if okC [v1, d, v7, v8, v2, v3, 0, v4, v5, (d % 3), v6, v11, v9, v10, 0] = true then ([v1, d, v7, v8, v2, v3, 0, v4, v5, (d % 3), v6, v11, v9, v10, 0], 0) else (zeroC, 9) := by rw [hE0]; unfold cellsOf; rw [if_neg H4.out]; rfl
  have HX := Lib.hid hE1
  clear hE0 hE1 zo hvl hl
  go_wp2_with fail
  refine wp_region_held_drew (S := fun w9 => (g < w9.heap.size ∧ w9.cell? ⟨g, 0, none⟩ = some (.int .i64 d) ∧ w9.cell? ⟨g, 1, none⟩ = some (.int .i64 v1) ∧ w9.cell? ⟨g, 2, none⟩ = some (.int .i64 v2) ∧ w9.cell? ⟨g, 3, none⟩ = some (.int .i64 v3) ∧ w9.cell? ⟨g, 4, none⟩ = some (.int .i64 v4) ∧ w9.cell? ⟨g, 5, none⟩ = some (.int .i64 v5) ∧ w9.cell? ⟨g, 6, none⟩ = some (.int .i64 v6) ∧ w9.cell? ⟨g, 7, none⟩ = some (.int .i64 v7) ∧ w9.cell? ⟨g, 8, none⟩ = some (.int .i64 v8) ∧ w9.cell? ⟨g, 9, none⟩ = some (.int .i64 v9) ∧ w9.cell? ⟨g, 10, none⟩ = some (.int .i64 v10) ∧ w9.cell? ⟨g, 11, none⟩ = some (.int .i64 v11)) ∧ Below w3.heap.size w3 w9) (by as_aux_lemma => kernel_rfl) ⟨hq0.1, hq0.2.drew⟩ (fun hHeld => ?_)
  refine wpAnyH_take (i := 0) (oi := ?_) (v := ?_) ?hiu50 (by as_aux_lemma => kernel_rfl) (by as_aux_lemma => kernel_rfl) (by as_aux_lemma => kernel_rfl) ?hQu50 (Or.inl ⟨?hwu50, ?hyu50⟩) hHeld ?restu50
  case hiu50 => simp only [List.getElem?_toArray, List.getElem?_cons_zero, List.getElem?_cons_succ]; rfl
  case hwu50 => rfl
  case hyu50 => (intro w9 hSw; (try dsimp only at hSw); go_simp; (try with_reducible rfl))
  case hQu50 => exact fun _ _ _ h => h
  (try simp only [Act.put, List.setIfInBounds_toArray, List.set_cons_zero, List.set_cons_succ])
  refine wpAnyH_take (i := 1) (oi := ?_) (v := ?_) ?hiu51 (by as_aux_lemma => kernel_rfl) (by as_aux_lemma => kernel_rfl) (by as_aux_lemma => kernel_rfl) ?hQu51 (Or.inl ⟨?hwu51, ?hyu51⟩) hHeld ?restu51
  case hiu51 => simp only [List.getElem?_toArray, List.getElem?_cons_zero, List.getElem?_cons_succ]; rfl
  case hwu51 => rfl
  case hyu51 => (intro w9 hSw; (try dsimp only at hSw); go_simp; (try with_reducible rfl))
  case hQu51 => exact fun _ _ _ h => h
  (try simp only [Act.put, List.setIfInBounds_toArray, List.set_cons_zero, List.set_cons_succ])
  refine wpAnyH_take (i := 2) (oi := ?_) (v := ?_) ?hiu52 (by as_aux_lemma => kernel_rfl) (by as_aux_lemma => kernel_rfl) (by as_aux_lemma => kernel_rfl) ?hQu52 (Or.inl ⟨?hwu52, ?hyu52⟩) hHeld ?restu52
  case hiu52 => simp only [List.getElem?_toArray, List.getElem?_cons_zero, List.getElem?_cons_succ]; rfl
  case hwu52 => rfl
  case hyu52 => (intro w9 hSw; (try dsimp only at hSw); go_simp; (try with_reducible rfl))
  case hQu52 => exact fun _ _ _ h => h
  (try simp only [Act.put, List.setIfInBounds_toArray, List.set_cons_zero, List.set_cons_succ])
  refine wpAnyH_take (i := 3) (oi := ?_) (v := ?_) ?hiu53 (by as_aux_lemma => kernel_rfl) (by as_aux_lemma => kernel_rfl) (by as_aux_lemma => kernel_rfl) ?hQu53 (Or.inl ⟨?hwu53, ?hyu53⟩) hHeld ?restu53
  case hiu53 => simp only [List.getElem?_toArray, List.getElem?_cons_zero, List.getElem?_cons_succ]; rfl
  case hwu53 => rfl
  case hyu53 => (intro w9 hSw; (try dsimp only at hSw); go_simp; (try with_reducible rfl))
  case hQu53 => exact fun _ _ _ h => h
  (try simp only [Act.put, List.setIfInBounds_toArray, List.set_cons_zero, List.set_cons_succ])
  refine wpAnyH_take (i := 4) (oi := ?_) (v := ?_) ?hiu54 (by as_aux_lemma => kernel_rfl) (by as_aux_lemma => kernel_rfl) (by as_aux_lemma => kernel_rfl) ?hQu54 (Or.inl ⟨?hwu54, ?hyu54⟩) hHeld ?restu54
  case hiu54 => simp only [List.getElem?_toArray, List.getElem?_cons_zero, List.getElem?_cons_succ]; rfl
  case hwu54 => rfl
  case hyu54 => (intro w9 hSw; (try dsimp only at hSw); go_simp; (try with_reducible rfl))
  case hQu54 => exact fun _ _ _ h => h
  (try simp only [Act.put, List.setIfInBounds_toArray, List.set_cons_zero, List.set_cons_succ])
  refine wpAnyH_take (i := 5) (oi := ?_) (v := ?_) ?hiu55 (by as_aux_lemma => kernel_rfl) (by as_aux_lemma => kernel_rfl) (by as_aux_lemma => kernel_rfl) ?hQu55 (Or.inl ⟨?hwu55, ?hyu55⟩) hHeld ?restu55
  case hiu55 => simp only [List.getElem?_toArray, List.getElem?_cons_zero, List.getElem?_cons_succ]; rfl
  case hwu55 => rfl
  case hyu55 => (intro w9 hSw; (try dsimp only at hSw); go_simp; (try with_reducible rfl))
  case hQu55 => exact fun _ _ _ h => h
  (try simp only [Act.put, List.setIfInBounds_toArray, List.set_cons_zero, List.set_cons_succ])
  refine wpAnyH_take (i := 6) (oi := ?_) (v := ?_) ?hiu56 (by as_aux_lemma => kernel_rfl) (by as_aux_lemma => kernel_rfl) (by as_aux_lemma => kernel_rfl) ?hQu56 (Or.inl ⟨?hwu56, ?hyu56⟩) hHeld ?restu56
  case hiu56 => simp only [List.getElem?_toArray, List.getElem?_cons_zero, List.getElem?_cons_succ]; rfl
  case hwu56 => rfl
  case hyu56 => (intro w9 hSw; (try dsimp only at hSw); go_simp; (try with_reducible rfl))
  case hQu56 => exact fun _ _ _ h => h
  (try simp only [Act.put, List.setIfInBounds_toArray, List.set_cons_zero, List.set_cons_succ])
  refine wpAnyH_take (i := 7) (oi := ?_) (v := ?_) ?hiu57 (by as_aux_lemma => kernel_rfl) (by as_aux_lemma => kernel_rfl) (by as_aux_lemma => kernel_rfl) ?hQu57 (Or.inl ⟨?hwu57, ?hyu57⟩) hHeld ?restu57
  case hiu57 => simp only [List.getElem?_toArray, List.getElem?_cons_zero, List.getElem?_cons_succ]; rfl
  case hwu57 => rfl
  case hyu57 => (intro w9 hSw; (try dsimp only at hSw); go_simp; (try with_reducible rfl))
  case hQu57 => exact fun _ _ _ h => h
  (try simp only [Act.put, List.setIfInBounds_toArray, List.set_cons_zero, List.set_cons_succ])
  refine wpAnyH_take (i := 8) (oi := ?_) (v := ?_) ?hiu58 (by as_aux_lemma => kernel_rfl) (by as_aux_lemma => kernel_rfl) (by as_aux_lemma => kernel_rfl) ?hQu58 (Or.inl ⟨?hwu58, ?hyu58⟩) hHeld ?restu58
  case hiu58 => simp only [List.getElem?_toArray, List.getElem?_cons_zero, List.getElem?_cons_succ]; rfl
  case hwu58 => rfl
  case hyu58 => (intro w9 hSw; (try dsimp only at hSw); go_simp; (try with_reducible rfl))
  case hQu58 => exact fun _ _ _ h => h
  (try simp only [Act.put, List.setIfInBounds_toArray, List.set_cons_zero, List.set_cons_succ])
  refine wpAnyH_take (i := 9) (oi := ?_) (v := ?_) ?hiu59 (by as_aux_lemma => kernel_rfl) (by as_aux_lemma => kernel_rfl) (by as_aux_lemma => kernel_rfl) ?hQu59 (Or.inl ⟨?hwu59, ?hyu59⟩) hHeld ?restu59
  case hiu59 => simp only [List.getElem?_toArray, List.getElem?_cons_zero, List.getElem?_cons_succ]; rfl
  case hwu59 => rfl
  case hyu59 => (intro w9 hSw; (try dsimp only at hSw); go_simp; (try with_reducible rfl))
  case hQu59 => exact fun _ _ _ h => h
  (try simp only [Act.put, List.setIfInBounds_toArray, List.set_cons_zero, List.set_cons_succ])
  refine wpAnyH_take (i := 10) (oi := ?_) (v := ?_) ?hiu60 (by as_aux_lemma => kernel_rfl) (by as_aux_lemma => kernel_rfl) (by as_aux_lemma => kernel_rfl) ?hQu60 (Or.inl ⟨?hwu60, ?hyu60⟩) hHeld ?restu60
  case hiu60 => simp only [List.getElem?_toArray, List.getElem?_cons_zero, List.getElem?_cons_succ]; rfl
  case hwu60 => rfl
  case hyu60 => (intro w9 hSw; (try dsimp only at hSw); go_simp; (try with_reducible rfl))
  case hQu60 => exact fun _ _ _ h => h
  (try simp only [Act.put, List.setIfInBounds_toArray, List.set_cons_zero, List.set_cons_succ])
  refine wpAnyH_take (i := 11) (oi := ?_) (v := ?_) ?hiu61 (by as_aux_lemma => kernel_rfl) (by as_aux_lemma => kernel_rfl) (by as_aux_lemma => kernel_rfl) ?hQu61 (Or.inl ⟨?hwu61, ?hyu61⟩) hHeld ?restu61
  case hiu61 => simp only [List.getElem?_toArray, List.getElem?_cons_zero, List.getElem?_cons_succ]; rfl
  case hwu61 => rfl
  case hyu61 => (intro w9 hSw; (try dsimp only at hSw); go_simp; (try with_reducible rfl))
  case hQu61 => exact fun _ _ _ h => h
  (try simp only [Act.put, List.setIfInBounds_toArray, List.set_cons_zero, List.set_cons_succ])
  refine wpAnyH_take (i := 12) (oi := ?_) (v := ?_) ?hiu62 (by as_aux_lemma => kernel_rfl) (by as_aux_lemma => kernel_rfl) (by as_aux_lemma => kernel_rfl) ?hQu62 (Or.inl ⟨?hwu62, ?hyu62⟩) hHeld ?restu62
  case hiu62 => simp only [List.getElem?_toArray, List.getElem?_cons_zero, List.getElem?_cons_succ]; rfl
  case hwu62 => rfl
  case hyu62 => (intro w9 hSw; (try dsimp only at hSw); go_simp; (try with_reducible rfl))
  case hQu62 => exact fun _ _ _ h => h
  (try simp only [Act.put, List.setIfInBounds_toArray, List.set_cons_zero, List.set_cons_succ])
  refine wpAnyH_take (i := 13) (oi := ?_) (v := ?_) ?hiu63 (by as_aux_lemma => kernel_rfl) (by as_aux_lemma => kernel_rfl) (by as_aux_lemma => kernel_rfl) ?hQu63 (Or.inl ⟨?hwu63, ?hyu63⟩) hHeld ?restu63
  case hiu63 => simp only [List.getElem?_toArray, List.getElem?_cons_zero, List.getElem?_cons_succ]; rfl
  case hwu63 => rfl
  case hyu63 => (intro w9 hSw; (try dsimp only at hSw); go_simp; (try with_reducible rfl))
  case hQu63 => exact fun _ _ _ h => h
  (try simp only [Act.put, List.setIfInBounds_toArray, List.set_cons_zero, List.set_cons_succ])
  refine wpAnyH_take (i := 14) (oi := ?_) (v := ?_) ?hiu64 (by as_aux_lemma => kernel_rfl) (by as_aux_lemma => kernel_rfl) (by as_aux_lemma => kernel_rfl) ?hQu64 (Or.inl ⟨?hwu64, ?hyu64⟩) hHeld ?restu64
  case hiu64 => simp only [List.getElem?_toArray, List.getElem?_cons_zero, List.getElem?_cons_succ]; rfl
  case hwu64 => rfl
  case hyu64 => (intro w9 hSw; (try dsimp only at hSw); go_simp; (try with_reducible rfl))
  case hQu64 => exact fun _ _ _ h => h
  (try simp only [Act.put, List.setIfInBounds_toArray, List.set_cons_zero, List.set_cons_succ])
  refine wpAnyH_take (i := 15) (oi := ?_) (v := ?_) ?hiu65 (by as_aux_lemma => kernel_rfl) (by as_aux_lemma => kernel_rfl) (by as_aux_lemma => kernel_rfl) ?hQu65 (Or.inl ⟨?hwu65, ?hyu65⟩) hHeld ?restu65
  case hiu65 => simp only [List.getElem?_toArray, List.getElem?_cons_zero, List.getElem?_cons_succ]; rfl
  case hwu65 => rfl
  case hyu65 => (intro w9 hSw; (try dsimp only at hSw); go_simp; (try with_reducible rfl))
  case hQu65 => exact fun _ _ _ h => h
  (try simp only [Act.put, List.setIfInBounds_toArray, List.set_cons_zero, List.set_cons_succ])
  refine wpAnyH_take (i := 16) (oi := ?_) (v := ?_) ?hiu66 (by as_aux_lemma => kernel_rfl) (by as_aux_lemma => kernel_rfl) (by as_aux_lemma => kernel_rfl) ?hQu66 (Or.inl ⟨?hwu66, ?hyu66⟩) hHeld ?restu66
  case hiu66 => simp only [List.getElem?_toArray, List.getElem?_cons_zero, List.getElem?_cons_succ]; rfl
  case hwu66 => rfl
  case hyu66 => (intro w9 hSw; (try dsimp only at hSw); go_simp; (try with_reducible rfl))
  case hQu66 => exact fun _ _ _ h => h
  (try simp only [Act.put, List.setIfInBounds_toArray, List.set_cons_zero, List.set_cons_succ])
  refine wpAnyH_take (i := 17) (oi := ?_) (v := ?_) ?hiu67 (by as_aux_lemma => kernel_rfl) (by as_aux_lemma => kernel_rfl) (by as_aux_lemma => kernel_rfl) ?hQu67 (Or.inl ⟨?hwu67, ?hyu67⟩) hHeld ?restu67
  case hiu67 => simp only [List.getElem?_toArray, List.getElem?_cons_zero, List.getElem?_cons_succ]; rfl
  case hwu67 => rfl
  case hyu67 => (intro w9 hSw; (try dsimp only at hSw); go_simp; (try with_reducible rfl))
  case hQu67 => exact fun _ _ _ h => h
  (try simp only [Act.put, List.setIfInBounds_toArray, List.set_cons_zero, List.set_cons_succ])
  refine wpAnyH_take (i := 18) (oi := ?_) (v := ?_) ?hiu68 (by as_aux_lemma => kernel_rfl) (by as_aux_lemma => kernel_rfl) (by as_aux_lemma => kernel_rfl) ?hQu68 (Or.inl ⟨?hwu68, ?hyu68⟩) hHeld ?restu68
  case hiu68 => simp only [List.getElem?_toArray, List.getElem?_cons_zero, List.getElem?_cons_succ]; rfl
  case hwu68 => rfl
  case hyu68 => (intro w9 hSw; (try dsimp only at hSw); go_simp; (try with_reducible rfl))
  case hQu68 => exact fun _ _ _ h => h
  (try simp only [Act.put, List.setIfInBounds_toArray, List.set_cons_zero, List.set_cons_succ])
  refine wpAnyH_take (i := 19) (oi := ?_) (v := ?_) ?hiu69 (by as_aux_lemma => kernel_rfl) (by as_aux_lemma => kernel_rfl) (by as_aux_lemma => kernel_rfl) ?hQu69 (Or.inl ⟨?hwu69, ?hyu69⟩) hHeld ?restu69
  case hiu69 => simp only [List.getElem?_toArray, List.getElem?_cons_zero, List.getElem?_cons_succ]; rfl
  case hwu69 => rfl
  case hyu69 => (intro w9 hSw; (try dsimp only at hSw); go_simp; (try with_reducible rfl))
  case hQu69 => exact fun _ _ _ h => h
  (try simp only [Act.put, List.setIfInBounds_toArray, List.set_cons_zero, List.set_cons_succ])
  refine wpAnyH_take (i := 20) (oi := ?_) (v := ?_) ?hiu70 (by as_aux_lemma => kernel_rfl) (by as_aux_lemma => kernel_rfl) (by as_aux_lemma => kernel_rfl) ?hQu70 (Or.inl ⟨?hwu70, ?hyu70⟩) hHeld ?restu70
  case hiu70 => simp only [List.getElem?_toArray, List.getElem?_cons_zero, List.getElem?_cons_succ]; rfl
  case hwu70 => rfl
  case hyu70 => (intro w9 hSw; (try dsimp only at hSw); go_simp; (try with_reducible rfl))
  case hQu70 => exact fun _ _ _ h => h
  (try simp only [Act.put, List.setIfInBounds_toArray, List.set_cons_zero, List.set_cons_succ])
  refine wpAnyH_take (i := 21) (oi := ?_) (v := ?_) ?hiu71 (by as_aux_lemma => kernel_rfl) (by as_aux_lemma => kernel_rfl) (by as_aux_lemma => kernel_rfl) ?hQu71 (Or.inl ⟨?hwu71, ?hyu71⟩) hHeld ?restu71
  case hiu71 => simp only [List.getElem?_toArray, List.getElem?_cons_zero, List.getElem?_cons_succ]; rfl
  case hwu71 => rfl
  case hyu71 => (intro w9 hSw; (try dsimp only at hSw); go_simp; (try with_reducible rfl))
  case hQu71 => exact fun _ _ _ h => h
  (try simp only [Act.put, List.setIfInBounds_toArray, List.set_cons_zero, List.set_cons_succ])
  refine wpAnyH_take (i := 22) (oi := ?_) (v := ?_) ?hiu72 (by as_aux_lemma => kernel_rfl) (by as_aux_lemma => kernel_rfl) (by as_aux_lemma => kernel_rfl) ?hQu72 (Or.inl ⟨?hwu72, ?hyu72⟩) hHeld ?restu72
  case hiu72 => simp only [List.getElem?_toArray, List.getElem?_cons_zero, List.getElem?_cons_succ]; rfl
  case hwu72 => rfl
  case hyu72 => (intro w9 hSw; (try dsimp only at hSw); go_simp; (try with_reducible rfl))
  case hQu72 => exact fun _ _ _ h => h
  (try simp only [Act.put, List.setIfInBounds_toArray, List.set_cons_zero, List.set_cons_succ])
  refine wpAnyH_take (i := 23) (oi := ?_) (v := ?_) ?hiu73 (by as_aux_lemma => kernel_rfl) (by as_aux_lemma => kernel_rfl) (by as_aux_lemma => kernel_rfl) ?hQu73 (Or.inl ⟨?hwu73, ?hyu73⟩) hHeld ?restu73
  case hiu73 => simp only [List.getElem?_toArray, List.getElem?_cons_zero, List.getElem?_cons_succ]; rfl
  case hwu73 => rfl
  case hyu73 => (intro w9 hSw; (try dsimp only at hSw); go_simp; (try with_reducible rfl))
  case hQu73 => exact fun _ _ _ h => h
  (try simp only [Act.put, List.setIfInBounds_toArray, List.set_cons_zero, List.set_cons_succ])
  refine wpAnyH_take (i := 24) (oi := ?_) (v := ?_) ?hiu74 (by as_aux_lemma => kernel_rfl) (by as_aux_lemma => kernel_rfl) (by as_aux_lemma => kernel_rfl) ?hQu74 (Or.inl ⟨?hwu74, ?hyu74⟩) hHeld ?restu74
  case hiu74 => simp only [List.getElem?_toArray, List.getElem?_cons_zero, List.getElem?_cons_succ]; rfl
  case hwu74 => rfl
  case hyu74 => (intro w9 hSw; (try dsimp only at hSw); go_simp; (try with_reducible rfl))
  case hQu74 => exact fun _ _ _ h => h
  (try simp only [Act.put, List.setIfInBounds_toArray, List.set_cons_zero, List.set_cons_succ])
  refine wpAnyH_take (i := 25) (oi := ?_) (v := ?_) ?hiu75 (by as_aux_lemma => kernel_rfl) (by as_aux_lemma => kernel_rfl) (by as_aux_lemma => kernel_rfl) ?hQu75 (Or.inl ⟨?hwu75, ?hyu75⟩) hHeld ?restu75
  case hiu75 => simp only [List.getElem?_toArray, List.getElem?_cons_zero, List.getElem?_cons_succ]; rfl
  case hwu75 => rfl
  case hyu75 => (intro w9 hSw; (try dsimp only at hSw); go_simp; (try with_reducible rfl))
  case hQu75 => exact fun _ _ _ h => h
  (try simp only [Act.put, List.setIfInBounds_toArray, List.set_cons_zero, List.set_cons_succ])
  refine wpAnyH_take (i := 26) (oi := ?_) (v := ?_) ?hiu76 (by as_aux_lemma => kernel_rfl) (by as_aux_lemma => kernel_rfl) (by as_aux_lemma => kernel_rfl) ?hQu76 (Or.inl ⟨?hwu76, ?hyu76⟩) hHeld ?restu76
  case hiu76 => simp only [List.getElem?_toArray, List.getElem?_cons_zero, List.getElem?_cons_succ]; rfl
  case hwu76 => rfl
  case hyu76 => (intro w9 hSw; (try dsimp only at hSw); go_simp; (try with_reducible rfl))
  case hQu76 => exact fun _ _ _ h => h
  (try simp only [Act.put, List.setIfInBounds_toArray, List.set_cons_zero, List.set_cons_succ])
  refine wpAnyH_take (i := 27) (oi := ?_) (v := ?_) ?hiu77 (by as_aux_lemma => kernel_rfl) (by as_aux_lemma => kernel_rfl) (by as_aux_lemma => kernel_rfl) ?hQu77 (Or.inl ⟨?hwu77, ?hyu77⟩) hHeld ?restu77
  case hiu77 => simp only [List.getElem?_toArray, List.getElem?_cons_zero, List.getElem?_cons_succ]; rfl
  case hwu77 => rfl
  case hyu77 => (intro w9 hSw; (try dsimp only at hSw); go_simp; (try with_reducible rfl))
  case hQu77 => exact fun _ _ _ h => h
  (try simp only [Act.put, List.setIfInBounds_toArray, List.set_cons_zero, List.set_cons_succ])
  refine wpAnyH_ready (rs := [28]) (by as_aux_lemma => kernel_rfl) (by simp) (AllReadyH.cons (o := ?_) ?hiu78 (fun K hK => ?_) AllReadyH.nil)
  case hiu78 => simp only [List.getElem?_toArray, List.getElem?_cons_zero, List.getElem?_cons_succ]; rfl
  go_simp
  refine hK.out _ _ ?_ (fun hHeld => ?_)
  · exact q12_below hq0 (bel1 _ _).drew
  clear hK K
  (try simp only [Act.put, List.setIfInBounds_toArray, List.set_cons_zero, List.set_cons_succ])
  refine wpAnyH_ready (rs := [29]) (by as_aux_lemma => kernel_rfl) (by simp) (AllReadyH.cons (o := ?_) ?hiu79 (fun K hK => ?_) AllReadyH.nil)
  case hiu79 => simp only [List.getElem?_toArray, List.getElem?_cons_zero, List.getElem?_cons_succ]; rfl
  go_simp
  refine hK.out _ _ ?_ (fun hHeld => ?_)
  · exact q12_below hq0 (bel1 _ _).drew
  clear hK K
  (try simp only [Act.put, List.setIfInBounds_toArray, List.set_cons_zero, List.set_cons_succ])
  refine wpAnyH_done (by as_aux_lemma => kernel_rfl) ?_ _
  go_wp2
  clear hHeld
  obtain ⟨w4, hw4⟩ : ∃ w4, (w3.alloc (.cells #[.int .i64 v1, .int .i64 d, .int .i64 v7, .int .i64 v8, .int .i64 v2, .int .i64 v3, .int .i64 0, .int .i64 v4, .int .i64 v5, .int .i64 (d % 3), .int .i64 v6] 24)).drew = w4 := ⟨_, rfl⟩
  have hq4 : (g < w4.heap.size ∧ w4.cell? ⟨g, 0, none⟩ = some (.int .i64 d) ∧ w4.cell? ⟨g, 1, none⟩ = some (.int .i64 v1) ∧ w4.cell? ⟨g, 2, none⟩ = some (.int .i64 v2) ∧ w4.cell? ⟨g, 3, none⟩ = some (.int .i64 v3) ∧ w4.cell? ⟨g, 4, none⟩ = some (.int .i64 v4) ∧ w4.cell? ⟨g, 5, none⟩ = some (.int .i64 v5) ∧ w4.cell? ⟨g, 6, none⟩ = some (.int .i64 v6) ∧ w4.cell? ⟨g, 7, none⟩ = some (.int .i64 v7) ∧ w4.cell? ⟨g, 8, none⟩ = some (.int .i64 v8) ∧ w4.cell? ⟨g, 9, none⟩ = some (.int .i64 v9) ∧ w4.cell? ⟨g, 10, none⟩ = some (.int .i64 v10) ∧ w4.cell? ⟨g, 11, none⟩ = some (.int .i64 v11)) ∧ Below w3.heap.size w3 w4 := q12_below hq0 (by rw [← hw4]; exact (bel1 _ _).drew)
  have hG4 : w4.heap[w3.heap.size]? = some (.cells #[.int .i64 v1, .int .i64 d, .int .i64 v7, .int .i64 v8, .int .i64 v2, .int .i64 v3, .int .i64 0, .int .i64 v4, .int .i64 v5, .int .i64 (d % 3), .int .i64 v6] 24 (0, 0)) := by rw [← hw4]; exact heap_alloc_new w3 _
  have ht4 : (w3.heap.size < w4.heap.size ∧ w4.cell? ⟨w3.heap.size, 0, none⟩ = some (.int .i64 v1) ∧ w4.cell? ⟨w3.heap.size, 1, none⟩ = some (.int .i64 d) ∧ w4.cell? ⟨w3.heap.size, 2, none⟩ = some (.int .i64 v7) ∧ w4.cell? ⟨w3.heap.size, 3, none⟩ = some (.int .i64 v8) ∧ w4.cell? ⟨w3.heap.size, 4, none⟩ = some (.int .i64 v2) ∧ w4.cell? ⟨w3.heap.size, 5, none⟩ = some (.int .i64 v3) ∧ w4.cell? ⟨w3.heap.size, 6, none⟩ = some (.int .i64 0) ∧ w4.cell? ⟨w3.heap.size, 7, none⟩ = some (.int .i64 v4) ∧ w4.cell? ⟨w3.heap.size, 8, none⟩ = some (.int .i64 v5) ∧ w4.cell? ⟨w3.heap.size, 9, none⟩ = some (.int .i64 (d % 3)) ∧ w4.cell? ⟨w3.heap.size, 10, none⟩ = some (.int .i64 v6)) ∧ Below w4.heap.size w4 w4 := ⟨⟨(Array.getElem?_eq_some_iff.1 hG4).1, (cell_of_row _ w3.heap.size 0 _ _ _ hG4).trans rfl, (cell_of_row _ w3.heap.size 1 _ _ _ hG4).trans rfl, (cell_of_row _ w3.heap.size 2 _ _ _ hG4).trans rfl, (cell_of_row _ w3.heap.size 3 _ _ _ hG4).trans rfl, (cell_of_row _ w3.heap.size 4 _ _ _ hG4).trans rfl, (cell_of_row _ w3.heap.size 5 _ _ _ hG4).trans rfl, (cell_of_row _ w3.heap.size 6 _ _ _ hG4).trans rfl, (cell_of_row _ w3.heap.size 7 _ _ _ hG4).trans rfl, (cell_of_row _ w3.heap.size 8 _ _ _ hG4).trans rfl, (cell_of_row _ w3.heap.size 9 _ _ _ hG4).trans rfl, (cell_of_row _ w3.heap.size 10 _ _ _ hG4).trans rfl⟩, Below.refl _ _⟩
  rw [hw4]
  have HW4 := Lib.hid hw4
  clear hw4
  have e10 : IntKind.i64.wrap 10 = 10 := by decide
  have e11 : IntKind.i64.wrap 11 = 11 := by decide
  refine wp_region_held_drew (S := fun w9 => ((g < w9.heap.size ∧ w9.cell? ⟨g, 0, none⟩ = some (.int .i64 d) ∧ w9.cell? ⟨g, 1, none⟩ = some (.int .i64 v1) ∧ w9.cell? ⟨g, 2, none⟩ = some (.int .i64 v2) ∧ w9.cell? ⟨g, 3, none⟩ = some (.int .i64 v3) ∧ w9.cell? ⟨g, 4, none⟩ = some (.int .i64 v4) ∧ w9.cell? ⟨g, 5, none⟩ = some (.int .i64 v5) ∧ w9.cell? ⟨g, 6, none⟩ = some (.int .i64 v6) ∧ w9.cell? ⟨g, 7, none⟩ = some (.int .i64 v7) ∧ w9.cell? ⟨g, 8, none⟩ = some (.int .i64 v8) ∧ w9.cell? ⟨g, 9, none⟩ = some (.int .i64 v9) ∧ w9.cell? ⟨g, 10, none⟩ = some (.int .i64 v10) ∧ w9.cell? ⟨g, 11, none⟩ = some (.int .i64 v11)) ∧ Below w3.heap.size w3 w9) ∧ ((w3.heap.size < w9.heap.size ∧ w9.cell? ⟨w3.heap.size, 0, none⟩ = some (.int .i64 v1) ∧ w9.cell? ⟨w3.heap.size, 1, none⟩ = some (.int .i64 d) ∧ w9.cell? ⟨w3.heap.size, 2, none⟩ = some (.int .i64 v7) ∧ w9.cell? ⟨w3.heap.size, 3, none⟩ = some (.int .i64 v8) ∧ w9.cell? ⟨w3.heap.size, 4, none⟩ = some (.int .i64 v2) ∧ w9.cell? ⟨w3.heap.size, 5, none⟩ = some (.int .i64 v3) ∧ w9.cell? ⟨w3.heap.size, 6, none⟩ = some (.int .i64 0) ∧ w9.cell? ⟨w3.heap.size, 7, none⟩ = some (.int .i64 v4) ∧ w9.cell? ⟨w3.heap.size, 8, none⟩ = some (.int .i64 v5) ∧ w9.cell? ⟨w3.heap.size, 9, none⟩ = some (.int .i64 (d % 3)) ∧ w9.cell? ⟨w3.heap.size, 10, none⟩ = some (.int .i64 v6)) ∧ Below w4.heap.size w4 w9)) (by as_aux_lemma => kernel_rfl) ⟨⟨hq4.1, hq4.2.drew⟩, ⟨ht4.1, ht4.2.drew⟩⟩ (fun hHeld => ?_)
  refine wpAnyH_take (i := 0) (oi := ?_) (v := ?_) ?hiu80 (by as_aux_lemma => kernel_rfl) (by as_aux_lemma => kernel_rfl) (by as_aux_lemma => kernel_rfl) ?hQu80 (Or.inl ⟨?hwu80, ?hyu80⟩) hHeld ?restu80
  case hiu80 => simp only [List.getElem?_toArray, List.getElem?_cons_zero, List.getElem?_cons_succ]; rfl
  case hwu80 => rfl
  case hyu80 => (intro w9 hSw; (try dsimp only at hSw); go_simp; (try with_reducible rfl))
  case hQu80 => exact fun _ _ _ h => h
  (try simp only [Act.put, List.setIfInBounds_toArray, List.set_cons_zero, List.set_cons_succ])
  refine wpAnyH_take (i := 1) (oi := ?_) (v := ?_) ?hiu81 (by as_aux_lemma => kernel_rfl) (by as_aux_lemma => kernel_rfl) (by as_aux_lemma => kernel_rfl) ?hQu81 (Or.inl ⟨?hwu81, ?hyu81⟩) hHeld ?restu81
  case hiu81 => simp only [List.getElem?_toArray, List.getElem?_cons_zero, List.getElem?_cons_succ]; rfl
  case hwu81 => rfl
  case hyu81 => (intro w9 hSw; (try dsimp only at hSw); go_simp; (try with_reducible rfl))
  case hQu81 => exact fun _ _ _ h => h
  (try simp only [Act.put, List.setIfInBounds_toArray, List.set_cons_zero, List.set_cons_succ])
  refine wpAnyH_take (i := 2) (oi := ?_) (v := ?_) ?hiu82 (by as_aux_lemma => kernel_rfl) (by as_aux_lemma => kernel_rfl) (by as_aux_lemma => kernel_rfl) ?hQu82 (Or.inl ⟨?hwu82, ?hyu82⟩) hHeld ?restu82
  case hiu82 => simp only [List.getElem?_toArray, List.getElem?_cons_zero, List.getElem?_cons_succ]; rfl
  case hwu82 => rfl
  case hyu82 => (intro w9 hSw; (try dsimp only at hSw); go_simp; (try with_reducible rfl))
  case hQu82 => exact fun _ _ _ h => h
  (try simp only [Act.put, List.setIfInBounds_toArray, List.set_cons_zero, List.set_cons_succ])
  refine wpAnyH_take (i := 3) (oi := ?_) (v := ?_) ?hiu83 (by as_aux_lemma => kernel_rfl) (by as_aux_lemma => kernel_rfl) (by as_aux_lemma => kernel_rfl) ?hQu83 (Or.inl ⟨?hwu83, ?hyu83⟩) hHeld ?restu83
  case hiu83 => simp only [List.getElem?_toArray, List.getElem?_cons_zero, List.getElem?_cons_succ]; rfl
  case hwu83 => rfl
  case hyu83 => (intro w9 hSw; (try dsimp only at hSw); go_simp; (try with_reducible rfl))
  case hQu83 => exact fun _ _ _ h => h
  (try simp only [Act.put, List.setIfInBounds_toArray, List.set_cons_zero, List.set_cons_succ])
  refine wpAnyH_take (i := 4) (oi := ?_) (v := ?_) ?hiu84 (by as_aux_lemma => kernel_rfl) (by as_aux_lemma => kernel_rfl) (by as_aux_lemma => kernel_rfl) ?hQu84 (Or.inl ⟨?hwu84, ?hyu84⟩) hHeld ?restu84
  case hiu84 => simp only [List.getElem?_toArray, List.getElem?_cons_zero, List.getElem?_cons_succ]; rfl
  case hwu84 => rfl
  case hyu84 => (intro w9 hSw; (try dsimp only at hSw); go_simp; (try with_reducible rfl))
  case hQu84 => exact fun _ _ _ h => h
  (try simp only [Act.put, List.setIfInBounds_toArray, List.set_cons_zero, List.set_cons_succ])
  refine wpAnyH_take (i := 5) (oi := ?_) (v := ?_) ?hiu85 (by as_aux_lemma => kernel_rfl) (by as_aux_lemma => kernel_rfl) (by as_aux_lemma => kernel_rfl) ?hQu85 (Or.inl ⟨?hwu85, ?hyu85⟩) hHeld ?restu85
  case hiu85 => simp only [List.getElem?_toArray, List.getElem?_cons_zero, List.getElem?_cons_succ]; rfl
  case hwu85 => rfl
  case hyu85 => (intro w9 hSw; (try dsimp only at hSw); go_simp; (try with_reducible rfl))
  case hQu85 => exact fun _ _ _ h => h
  (try simp only [Act.put, List.setIfInBounds_toArray, List.set_cons_zero, List.set_cons_succ])
  refine wpAnyH_take (i := 6) (oi := ?_) (v := ?_) ?hiu86 (by as_aux_lemma => kernel_rfl) (by as_aux_lemma => kernel_rfl) (by as_aux_lemma => kernel_rfl) ?hQu86 (Or.inl ⟨?hwu86, ?hyu86⟩) hHeld ?restu86
  case hiu86 => simp only [List.getElem?_toArray, List.getElem?_cons_zero, List.getElem?_cons_succ]; rfl
  case hwu86 => rfl
  case hyu86 => (intro w9 hSw; (try dsimp only at hSw); go_simp; (try with_reducible rfl))
  case hQu86 => exact fun _ _ _ h => h
  (try simp only [Act.put, List.setIfInBounds_toArray, List.set_cons_zero, List.set_cons_succ])
  refine wpAnyH_take (i := 7) (oi := ?_) (v := ?_) ?hiu87 (by as_aux_lemma => kernel_rfl) (by as_aux_lemma => kernel_rfl) (by as_aux_lemma => kernel_rfl) ?hQu87 (Or.inl ⟨?hwu87, ?hyu87⟩) hHeld ?restu87
  case hiu87 => simp only [List.getElem?_toArray, List.getElem?_cons_zero, List.getElem?_cons_succ]; rfl
  case hwu87 => rfl
  case hyu87 => (intro w9 hSw; (try dsimp only at hSw); go_simp; (try with_reducible rfl))
  case hQu87 => exact fun _ _ _ h => h
  (try simp only [Act.put, List.setIfInBounds_toArray, List.set_cons_zero, List.set_cons_succ])
  refine wpAnyH_take (i := 8) (oi := ?_) (v := ?_) ?hiu88 (by as_aux_lemma => kernel_rfl) (by as_aux_lemma => kernel_rfl) (by as_aux_lemma => kernel_rfl) ?hQu88 (Or.inl ⟨?hwu88, ?hyu88⟩) hHeld ?restu88
  case hiu88 => simp only [List.getElem?_toArray, List.getElem?_cons_zero, List.getElem?_cons_succ]; rfl
  case hwu88 => rfl
  case hyu88 => (intro w9 hSw; (try dsimp only at hSw); go_simp; (try with_reducible rfl))
  case hQu88 => exact fun _ _ _ h => h
  (try simp only [Act.put, List.setIfInBounds_toArray, List.set_cons_zero, List.set_cons_succ])
  refine wpAnyH_take (i := 9) (oi := ?_) (v := ?_) ?hiu89 (by as_aux_lemma => kernel_rfl) (by as_aux_lemma => kernel_rfl) (by as_aux_lemma => kernel_rfl) ?hQu89 (Or.inl ⟨?hwu89, ?hyu89⟩) hHeld ?restu89
  case hiu89 => simp only [List.getElem?_toArray, List.getElem?_cons_zero, List.getElem?_cons_succ]; rfl
  case hwu89 => rfl
  case hyu89 => (intro w9 hSw; (try dsimp only at hSw); go_simp; (try with_reducible rfl))
  case hQu89 => exact fun _ _ _ h => h
  (try simp only [Act.put, List.setIfInBounds_toArray, List.set_cons_zero, List.set_cons_succ])
  refine wpAnyH_take (i := 10) (oi := ?_) (v := ?_) ?hiu90 (by as_aux_lemma => kernel_rfl) (by as_aux_lemma => kernel_rfl) (by as_aux_lemma => kernel_rfl) ?hQu90 (Or.inl ⟨?hwu90, ?hyu90⟩) hHeld ?restu90
  case hiu90 => simp only [List.getElem?_toArray, List.getElem?_cons_zero, List.getElem?_cons_succ]; rfl
  case hwu90 => rfl
  case hyu90 => (intro w9 hSw; (try dsimp only at hSw); go_simp; (try with_reducible rfl))
  case hQu90 => exact fun _ _ _ h => h
  (try simp only [Act.put, List.setIfInBounds_toArray, List.set_cons_zero, List.set_cons_succ])
  refine wpAnyH_take (i := 11) (oi := ?_) (v := ?_) ?hiu91 (by as_aux_lemma => kernel_rfl) (by as_aux_lemma => kernel_rfl) (by as_aux_lemma => kernel_rfl) ?hQu91 (Or.inl ⟨?hwu91, ?hyu91⟩) hHeld ?restu91
  case hiu91 => simp only [List.getElem?_toArray, List.getElem?_cons_zero, List.getElem?_cons_succ]; rfl
  case hwu91 => rfl
  case hyu91 => (intro w9 hSw; (try dsimp only at hSw); go_simp; (try with_reducible rfl))
  case hQu91 => exact fun _ _ _ h => h
  (try simp only [Act.put, List.setIfInBounds_toArray, List.set_cons_zero, List.set_cons_succ])
  refine wpAnyH_take (i := 12) (oi := ?_) (v := ?_) ?hiu92 (by as_aux_lemma => kernel_rfl) (by as_aux_lemma => kernel_rfl) (by as_aux_lemma => kernel_rfl) ?hQu92 (Or.inl ⟨?hwu92, ?hyu92⟩) hHeld ?restu92
  case hiu92 => simp only [List.getElem?_toArray, List.getElem?_cons_zero, List.getElem?_cons_succ]; rfl
  case hwu92 => rfl
  case hyu92 => (intro w9 hSw; (try dsimp only at hSw); go_simp; (try with_reducible rfl))
  case hQu92 => exact fun _ _ _ h => h
  (try simp only [Act.put, List.setIfInBounds_toArray, List.set_cons_zero, List.set_cons_succ])
  refine wpAnyH_take (i := 13) (oi := ?_) (v := ?_) ?hiu93 (by as_aux_lemma => kernel_rfl) (by as_aux_lemma => kernel_rfl) (by as_aux_lemma => kernel_rfl) ?hQu93 (Or.inl ⟨?hwu93, ?hyu93⟩) hHeld ?restu93
  case hiu93 => simp only [List.getElem?_toArray, List.getElem?_cons_zero, List.getElem?_cons_succ]; rfl
  case hwu93 => rfl
  case hyu93 => (intro w9 hSw; (try dsimp only at hSw); go_simp; (try with_reducible rfl))
  case hQu93 => exact fun _ _ _ h => h
  (try simp only [Act.put, List.setIfInBounds_toArray, List.set_cons_zero, List.set_cons_succ])
  refine wpAnyH_take (i := 14) (oi := ?_) (v := ?_) ?hiu94 (by as_aux_lemma => kernel_rfl) (by as_aux_lemma => kernel_rfl) (by as_aux_lemma => kernel_rfl) ?hQu94 (Or.inl ⟨?hwu94, ?hyu94⟩) hHeld ?restu94
  case hiu94 => simp only [List.getElem?_toArray, List.getElem?_cons_zero, List.getElem?_cons_succ]; rfl
  case hwu94 => rfl
  case hyu94 => (intro w9 hSw; (try dsimp only at hSw); go_simp; (try with_reducible rfl))
  case hQu94 => exact fun _ _ _ h => h
  (try simp only [Act.put, List.setIfInBounds_toArray, List.set_cons_zero, List.set_cons_succ])
  refine wpAnyH_take (i := 15) (oi := ?_) (v := ?_) ?hiu95 (by as_aux_lemma => kernel_rfl) (by as_aux_lemma => kernel_rfl) (by as_aux_lemma => kernel_rfl) ?hQu95 (Or.inl ⟨?hwu95, ?hyu95⟩) hHeld ?restu95
  case hiu95 => simp only [List.getElem?_toArray, List.getElem?_cons_zero, List.getElem?_cons_succ]; rfl
  case hwu95 => rfl
  case hyu95 => (intro w9 hSw; (try dsimp only at hSw); go_simp; (try with_reducible rfl))
  case hQu95 => exact fun _ _ _ h => h
  (try simp only [Act.put, List.setIfInBounds_toArray, List.set_cons_zero, List.set_cons_succ])
  refine wpAnyH_take (i := 16) (oi := ?_) (v := ?_) ?hiu96 (by as_aux_lemma => kernel_rfl) (by as_aux_lemma => kernel_rfl) (by as_aux_lemma => kernel_rfl) ?hQu96 (Or.inl ⟨?hwu96, ?hyu96⟩) hHeld ?restu96
  case hiu96 => simp only [List.getElem?_toArray, List.getElem?_cons_zero, List.getElem?_cons_succ]; rfl
  case hwu96 => rfl
  case hyu96 => (intro w9 hSw; (try dsimp only at hSw); go_simp; (try with_reducible rfl))
  case hQu96 => exact fun _ _ _ h => h
  (try simp only [Act.put, List.setIfInBounds_toArray, List.set_cons_zero, List.set_cons_succ])
  refine wpAnyH_ready (rs := [17]) (by as_aux_lemma => kernel_rfl) (by simp) (AllReadyH.cons (o := ?_) ?hiu97 (fun K hK => ?_) AllReadyH.nil)
  case hiu97 => simp only [List.getElem?_toArray, List.getElem?_cons_zero, List.getElem?_cons_succ]; rfl
  go_simp
  refine hK.out _ _ ?_ (fun hHeld => ?_)
  · exact ⟨q12_below hq4 (bel1 _ _).drew, q11_below ht4 (bel1 _ _).drew⟩
  clear hK K
  (try simp only [Act.put, List.setIfInBounds_toArray, List.set_cons_zero, List.set_cons_succ])
  refine wpAnyH_ready (rs := [18]) (by as_aux_lemma => kernel_rfl) (by simp) (AllReadyH.cons (o := ?_) ?hiu98 (fun K hK => ?_) AllReadyH.nil)
  case hiu98 => simp only [List.getElem?_toArray, List.getElem?_cons_zero, List.getElem?_cons_succ]; rfl
  go_simp
  refine hK.out _ _ ?_ (fun hHeld => ?_)
  · exact ⟨q12_below hq4 (bel1 _ _).drew, q11_below ht4 (bel1 _ _).drew⟩
  clear hK K
  (try simp only [Act.put, List.setIfInBounds_toArray, List.set_cons_zero, List.set_cons_succ])
  refine wpAnyH_done (by as_aux_lemma => kernel_rfl) ?_ _
  clear hHeld
  obtain ⟨w5, hw5⟩ : ∃ w5, (w4.alloc (.cells #[.int .i64 v1, .int .i64 d, .int .i64 v7, .int .i64 v8, .int .i64 v2, .int .i64 v3, .int .i64 0, .int .i64 v4, .int .i64 v5, .int .i64 (d % 3), .int .i64 v6, .int .i64 v11, .int .i64 v9, .int .i64 v10, .int .i64 0] 28)).drew = w5 := ⟨_, rfl⟩
  have hb45 : Below w4.heap.size w4 w5 := by rw [← hw5]; exact (bel1 _ _).drew
  have hq5 := q12_below hq4 hb45
  have ht5 := (q11_below ht4 hb45).1
  have hG5 : w5.heap[w4.heap.size]? = some (.cells #[.int .i64 v1, .int .i64 d, .int .i64 v7, .int .i64 v8, .int .i64 v2, .int .i64 v3, .int .i64 0, .int .i64 v4, .int .i64 v5, .int .i64 (d % 3), .int .i64 v6, .int .i64 v11, .int .i64 v9, .int .i64 v10, .int .i64 0] 28 (0, 0)) := by rw [← hw5]; exact heap_alloc_new w4 _
  have hr5 : (w4.heap.size < w5.heap.size ∧ w5.cell? ⟨w4.heap.size, 0, none⟩ = some (.int .i64 v1) ∧ w5.cell? ⟨w4.heap.size, 1, none⟩ = some (.int .i64 d) ∧ w5.cell? ⟨w4.heap.size, 2, none⟩ = some (.int .i64 v7) ∧ w5.cell? ⟨w4.heap.size, 3, none⟩ = some (.int .i64 v8) ∧ w5.cell? ⟨w4.heap.size, 4, none⟩ = some (.int .i64 v2) ∧ w5.cell? ⟨w4.heap.size, 5, none⟩ = some (.int .i64 v3) ∧ w5.cell? ⟨w4.heap.size, 6, none⟩ = some (.int .i64 0) ∧ w5.cell? ⟨w4.heap.size, 7, none⟩ = some (.int .i64 v4) ∧ w5.cell? ⟨w4.heap.size, 8, none⟩ = some (.int .i64 v5) ∧ w5.cell? ⟨w4.heap.size, 9, none⟩ = some (.int .i64 (d % 3)) ∧ w5.cell? ⟨w4.heap.size, 10, none⟩ = some (.int .i64 v6) ∧ w5.cell? ⟨w4.heap.size, 11, none⟩ = some (.int .i64 v11) ∧ w5.cell? ⟨w4.heap.size, 12, none⟩ = some (.int .i64 v9) ∧ w5.cell? ⟨w4.heap.size, 13, none⟩ = some (.int .i64 v10) ∧ w5.cell? ⟨w4.heap.size, 14, none⟩ = some (.int .i64 0)) ∧ Below w5.heap.size w5 w5 := ⟨⟨(Array.getElem?_eq_some_iff.1 hG5).1, (cell_of_row _ w4.heap.size 0 _ _ _ hG5).trans rfl, (cell_of_row _ w4.heap.size 1 _ _ _ hG5).trans rfl, (cell_of_row _ w4.heap.size 2 _ _ _ hG5).trans rfl, (cell_of_row _ w4.heap.size 3 _ _ _ hG5).trans rfl, (cell_of_row _ w4.heap.size 4 _ _ _ hG5).trans rfl, (cell_of_row _ w4.heap.size 5 _ _ _ hG5).trans rfl, (cell_of_row _ w4.heap.size 6 _ _ _ hG5).trans rfl, (cell_of_row _ w4.heap.size 7 _ _ _ hG5).trans rfl, (cell_of_row _ w4.heap.size 8 _ _ _ hG5).trans rfl, (cell_of_row _ w4.heap.size 9 _ _ _ hG5).trans rfl, (cell_of_row _ w4.heap.size 10 _ _ _ hG5).trans rfl, (cell_of_row _ w4.heap.size 11 _ _ _ hG5).trans rfl, (cell_of_row _ w4.heap.size 12 _ _ _ hG5).trans rfl, (cell_of_row _ w4.heap.size 13 _ _ _ hG5).trans rfl, (cell_of_row _ w4.heap.size 14 _ _ _ hG5).trans rfl⟩, Below.refl _ _⟩
  have hgO := (hq5.2.block w.heap.size hz4).trans hg3.out
  have HBr := Lib.hid (bT HB3.out hq5.2)
  have hzr : w.heap.size < w5.heap.size := Nat.lt_of_lt_of_le hz4 hq5.2.size
  rw [hw5]
  have ht5' : (w3.heap.size < w5.heap.size ∧ w5.cell? ⟨w3.heap.size, 0, none⟩ = some (.int .i64 v1) ∧ w5.cell? ⟨w3.heap.size, 1, none⟩ = some (.int .i64 d) ∧ w5.cell? ⟨w3.heap.size, 2, none⟩ = some (.int .i64 v7) ∧ w5.cell? ⟨w3.heap.size, 3, none⟩ = some (.int .i64 v8) ∧ w5.cell? ⟨w3.heap.size, 4, none⟩ = some (.int .i64 v2) ∧ w5.cell? ⟨w3.heap.size, 5, none⟩ = some (.int .i64 v3) ∧ w5.cell? ⟨w3.heap.size, 6, none⟩ = some (.int .i64 0) ∧ w5.cell? ⟨w3.heap.size, 7, none⟩ = some (.int .i64 v4) ∧ w5.cell? ⟨w3.heap.size, 8, none⟩ = some (.int .i64 v5) ∧ w5.cell? ⟨w3.heap.size, 9, none⟩ = some (.int .i64 (d % 3)) ∧ w5.cell? ⟨w3.heap.size, 10, none⟩ = some (.int .i64 v6)) ∧ Below w5.heap.size w5 w5 := ⟨ht5, Below.refl _ _⟩
  clear hw5 hG5 hG4 ht4 hq4 hq0 hq5 hb45 HB3 HW4 hgb hgl ht5
  have hz : ∀ W9 : World, Below w5.heap.size w5 W9 → (∀ o, o < 15 → W9.cell? ⟨w.heap.size, o, none⟩ = some (.int .i64 0)) ∧ (∀ o, W9.frozen? ⟨w.heap.size, o, none⟩ = false) ∧ w.heap.size < W9.heap.size ∧ W9.heap[w.heap.size]? = some (.cells #[.int .i64 0, .int .i64 0, .int .i64 0, .int .i64 0, .int .i64 0, .int .i64 0, .int .i64 0, .int .i64 0, .int .i64 0, .int .i64 0, .int .i64 0, .int .i64 0, .int .i64 0, .int .i64 0, .int .i64 0] 28 (0, 0)) ∧ Below w.heap.size w W9 := by
    intro W9 hb
    have hg := (hb.block w.heap.size hzr).trans hgO
    refine ⟨?_, by intro o; simp [World.frozen?, hg], Nat.lt_of_lt_of_le hzr hb.size, hg, bT HBr.out hb⟩
    intro o ho
    rw [cell_of_row _ w.heap.size o _ _ _ hg]
    have : o = 0 ∨ o = 1 ∨ o = 2 ∨ o = 3 ∨ o = 4 ∨ o = 5 ∨ o = 6 ∨ o = 7 ∨ o = 8 ∨ o = 9 ∨ o = 10 ∨ o = 11 ∨ o = 12 ∨ o = 13 ∨ o = 14 := by omega
    rcases this with rfl | rfl | rfl | rfl | rfl | rfl | rfl | rfl | rfl | rfl | rfl | rfl | rfl | rfl | rfl <;> rfl
  have HZ := Lib.hid hz
  clear hz hgO HBr
  cases hT : tkB v1 d v7 v8 v2 v3 0 v4 v5 (d % 3) v6 with
  | false =>
    have E := Lib.hid (show layG L = (zeroC, 9) by rw [HX.out]; simp [okC, hT])
    go_wp2_with (go_at_call 98; (with_reducible refine (refIs_any v1 d v7 v8 v2 v3 0 v4 v5 (d % 3) v6 _).mono ?_); rintro e w6 ⟨rfl, hb6⟩; have hr6 := qr_below hr5 hb6; have ht6 := q11_below ht5' hb6; obtain ⟨hcz, hfz, hzZ, hgZ, hBZ⟩ := HZ.out _ hr6.2; have HGZ := Lib.hid hgZ; have HBZ := Lib.hid hBZ; clear hgZ hBZ)
    exact ⟨rfl, refGetOut (c := zeroC) rfl rfl (row_set (row_set (row_set (row_set (row_set (row_set (row_set (row_set (row_set (row_set (row_set (row_set (row_set (row_set (row_set HGZ.out 0 _) 1 _) 2 _) 3 _) 4 _) 5 _) 6 _) 7 _) 8 _) 9 _) 10 _) 11 _) 12 _) 13 _) 14 _) rfl E.out (by have h := HBZ.out; repeat (first | (with_reducible exact bR _) | (with_reducible refine bT ?_ (by assumption)) | (with_reducible apply bA) | (with_reducible apply bD) | (with_reducible apply bN) | (with_reducible refine bS ?_ (by first | omega | (simp; done) | (simp; omega)))))⟩
  | true =>
  cases hU : suB (d % 3) v9 v10 with
  | false =>
    have E := Lib.hid (show layG L = (zeroC, 9) by rw [HX.out]; simp [okC, hT, hU])
    go_wp2_with (first | (go_at_call 98; (with_reducible refine (refIs_any v1 d v7 v8 v2 v3 0 v4 v5 (d % 3) v6 _).mono ?_); rintro e w6 ⟨rfl, hb6⟩; have hr6 := qr_below hr5 hb6; have ht6 := q11_below ht5' hb6; obtain ⟨hcz, hfz, hzZ, hgZ, hBZ⟩ := HZ.out _ hr6.2; have HGZ := Lib.hid hgZ; have HBZ := Lib.hid hBZ; clear hgZ hBZ) | (go_at_call 99; (with_reducible refine (refSuits_any v1 d v7 v8 v2 v3 0 v4 v5 (d % 3) v6 v9 v10 _).mono ?_); rintro e w7 ⟨rfl, hb7⟩; have hr7 := qr_below hr6 hb7; obtain ⟨hcz, hfz, hzZ, hgZ, hBZ⟩ := HZ.out _ hr7.2; have HGZ := Lib.hid hgZ; have HBZ := Lib.hid hBZ; clear hgZ hBZ))
    exact ⟨rfl, refGetOut (c := zeroC) rfl rfl (row_set (row_set (row_set (row_set (row_set (row_set (row_set (row_set (row_set (row_set (row_set (row_set (row_set (row_set (row_set HGZ.out 0 _) 1 _) 2 _) 3 _) 4 _) 5 _) 6 _) 7 _) 8 _) 9 _) 10 _) 11 _) 12 _) 13 _) 14 _) rfl E.out (by have h := HBZ.out; repeat (first | (with_reducible exact bR _) | (with_reducible refine bT ?_ (by assumption)) | (with_reducible apply bA) | (with_reducible apply bD) | (with_reducible apply bN) | (with_reducible refine bS ?_ (by first | omega | (simp; done) | (simp; omega)))))⟩
  | true =>
    have E := Lib.hid (show layG L = ([v1, d, v7, v8, v2, v3, 0, v4, v5, (d % 3), v6, v11, v9, v10, 0], 0) by rw [HX.out]; simp [okC, hT, hU])
    go_wp2_with (first | (go_at_call 98; (with_reducible refine (refIs_any v1 d v7 v8 v2 v3 0 v4 v5 (d % 3) v6 _).mono ?_); rintro e w6 ⟨rfl, hb6⟩; have hr6 := qr_below hr5 hb6; have ht6 := q11_below ht5' hb6; obtain ⟨hcz, hfz, hzZ, hgZ, hBZ⟩ := HZ.out _ hr6.2; have HGZ := Lib.hid hgZ; have HBZ := Lib.hid hBZ; clear hgZ hBZ) | (go_at_call 99; (with_reducible refine (refSuits_any v1 d v7 v8 v2 v3 0 v4 v5 (d % 3) v6 v9 v10 _).mono ?_); rintro e w7 ⟨rfl, hb7⟩; have hr7 := qr_below hr6 hb7; obtain ⟨hcz, hfz, hzZ, hgZ, hBZ⟩ := HZ.out _ hr7.2; have HGZ := Lib.hid hgZ; have HBZ := Lib.hid hBZ; clear hgZ hBZ))
    exact ⟨rfl, refGetOut (c := [v1, d, v7, v8, v2, v3, 0, v4, v5, (d % 3), v6, v11, v9, v10, 0]) rfl rfl ((set15 _ _ _ _ _ _ _ _ _ _ _ _ _ _ _ HGZ.out).trans rfl) rfl E.out (by have h := HBZ.out; repeat (first | (with_reducible exact bR _) | (with_reducible refine bT ?_ (by assumption)) | (with_reducible apply bA) | (with_reducible apply bD) | (with_reducible apply bN) | (with_reducible refine bS ?_ (by first | omega | (simp; done) | (simp; omega)))))⟩

set_option maxHeartbeats 8000000 in
set_option maxRecDepth 100000 in
theorem refLayGet_any (A : Option Addr) (c : Nat) (l : List Int) (w : World) (hr : RdI w .u8 A l) (hlc : l.length ≤ c) (hc9 : c ≤ 9223372036854775807) (hb : ∀ x ∈ l, 0 ≤ x ∧ x < 256) :
    Calls Tryz.prog 53 #[.slice A l.length c] w (GetRet (layG l) w) := by
  by_cases h0 : l.length = 0
  · have E := Lib.hid (show layG l = (zeroC, 14) by rw [List.length_eq_zero_iff.1 h0]; rfl)
    have d0 : ((l.length : Int) == 0) = true := by simpa using h0
    go_enter Tryz.func53, Tryz.ntmps53
    go_wp2
    exact ⟨rfl, refGetOut rfl rfl (heap_alloc_new w _) rfl E.out (bel1 _ _)⟩
  have hlt : 0 < l.length := by omega
  obtain ⟨d, l', rfl⟩ : ∃ d l', l = d :: l' := by
    cases l with
    | nil => simp at h0
    | cons d l' => exact ⟨d, l', rfl⟩
  have d0 : (((d :: l').length : Int) == 0) = false := by simp; omega
  obtain ⟨ad, rfl, hcd⟩ := (hr.below (bel1 w (.cells #[.int .i64 0, .int .i64 0, .int .i64 0, .int .i64 0, .int .i64 0, .int .i64 0, .int .i64 0, .int .i64 0, .int .i64 0, .int .i64 0, .int .i64 0, .int .i64 0, .int .i64 0, .int .i64 0, .int .i64 0] 28))).at_ hlt
  rw [add_zero] at hcd
  replace hcd : (w.alloc (.cells #[.int .i64 0, .int .i64 0, .int .i64 0, .int .i64 0, .int .i64 0, .int .i64 0, .int .i64 0, .int .i64 0, .int .i64 0, .int .i64 0, .int .i64 0, .int .i64 0, .int .i64 0, .int .i64 0, .int .i64 0] 28)).cell? ad = some (.int .u8 d) := hcd
  have hbd := hb d List.mem_cons_self
  obtain ⟨m, hm⟩ : ∃ m, (d :: l').length = m := ⟨_, rfl⟩
  have hlt2 : 0 < m := by omega
  by_cases h9 : 9 < d
  · have E := Lib.hid (show layG (d :: l') = (zeroC, 7) by rw [layG_cons, if_pos h9])
    rw [hm] at d0 ⊢
    go_enter Tryz.func53, Tryz.ntmps53
    go_wp2
    exact ⟨rfl, refGetOut rfl rfl (heap_alloc_new w _) rfl E.out (bel1 _ _)⟩
  have d9 : decide (9 < d) = false := by simpa using h9
  by_cases h8 : wsE d = 0
  rotate_left
  · have E := Lib.hid (show layG (d :: l') = (zeroC, wsE d) by rw [layG_cons, if_neg h9, if_pos h8]; unfold wsE at h8 ⊢; split at h8 <;> simp_all)
    have d8 : (wsE d != 0) = true := by simpa using h8
    rw [hm] at d0 ⊢
    clear h8
    go_enter Tryz.func53, Tryz.ntmps53
    go_wp2_with fail
    refine (refWidths_any d _).mono ?_
    rintro e w2 ⟨u, rfl, uo, hb2⟩
    obtain ⟨uA, uc, rfl, _, _⟩ := own_slice uo
    obtain ⟨hc2, hf2⟩ := bcell hb2
    have hz2 : w.heap.size < w2.heap.size := by have := hb2.size; simp at this; omega
    have hg2 := Lib.hid ((hb2.block w.heap.size (by simp)).trans (heap_alloc_new w _))
    have HB2 := Lib.hid (bT (bel1 w _) hb2)
    clear uo hb2
    go_wp2
    exact ⟨rfl, refGetOut (c := zeroC) rfl rfl (row_set (row_set (row_set (row_set (row_set (row_set (row_set (row_set (row_set (row_set (row_set (row_set (row_set (row_set (row_set hg2.out 0 _) 1 _) 2 _) 3 _) 4 _) 5 _) 6 _) 7 _) 8 _) 9 _) 10 _) 11 _) 12 _) 13 _) 14 _) rfl E.out (by have h := HB2.out; repeat (first | (with_reducible exact bR _) | (with_reducible refine bT ?_ (by assumption)) | (with_reducible apply bA) | (with_reducible apply bD) | (with_reducible apply bN) | (with_reducible refine bS ?_ (by first | omega | (simp; done) | (simp; omega)))))⟩
  by_cases h7 : (splitR (d :: l') (wsL d)).2 = 0
  rotate_left
  · have E := Lib.hid (show layG (d :: l') = (zeroC, (splitR (d :: l') (wsL d)).2) by rw [layG_cons, if_neg h9, if_neg (by simp [h8]), if_pos h7])
    have d7 : ((splitR (d :: l') (wsL d)).2 != 0) = true := by simpa using h7
    have hwl := wsL_le d
    obtain ⟨L, hL⟩ : ∃ L, d :: l' = L := ⟨_, rfl⟩
    rw [hL] at hr hlc hb E d7 hm d0 ⊢
    subst hm
    clear h7 hL
    go_enter Tryz.func53, Tryz.ntmps53
    go_wp2_with fail
    refine (refWidths_any d _).mono ?_
    rintro e w2 ⟨u, rfl, uo, hb2⟩
    obtain ⟨uA, uc, rfl, _, _⟩ := own_slice uo
    have ur := RdI.of_own uo
    have hr2 := (hr.below (bel1 w _)).below hb2
    have hg2 := (hb2.block w.heap.size (by simp)).trans (heap_alloc_new w _)
    have HB2 := Lib.hid (bT (bel1 w _) hb2)
    clear uo hb2
    go_wp2_with fail
    refine (refSplit_any (some ad) uA c uc L (wsL d) _ hr2 ur hlc hc9 (by omega) hb).mono ?_
    rintro e w3 ⟨z, rfl, zo, hb3⟩
    obtain ⟨zA, zc, rfl, _, _⟩ := own_slice zo
    obtain ⟨hc3, hf3⟩ := bcell hb3
    have hz3 : w.heap.size < w2.heap.size := (Array.getElem?_eq_some_iff.1 hg2).1
    have hz4 : w.heap.size < w3.heap.size := by have := hb3.size; omega
    have hg3 := Lib.hid ((hb3.block w.heap.size hz3).trans hg2)
    have hcz : ∀ o, o < 15 → w2.cell? ⟨w.heap.size, o, none⟩ = some (.int .i64 0) := by
      intro o ho
      rw [cell_of_row _ w.heap.size o _ _ _ hg2]
      have : o = 0 ∨ o = 1 ∨ o = 2 ∨ o = 3 ∨ o = 4 ∨ o = 5 ∨ o = 6 ∨ o = 7 ∨ o = 8 ∨ o = 9 ∨ o = 10 ∨ o = 11 ∨ o = 12 ∨ o = 13 ∨ o = 14 := by omega
      rcases this with rfl | rfl | rfl | rfl | rfl | rfl | rfl | rfl | rfl | rfl | rfl | rfl | rfl | rfl | rfl <;> rfl
    have hfz : ∀ o, w2.frozen? ⟨w.heap.size, o, none⟩ = false := by intro o; simp [World.frozen?, hg2]
    have HB3 := Lib.hid (bT HB2.out hb3)
    clear zo hb3 hg2
    go_wp2
    exact ⟨rfl, refGetOut (c := zeroC) rfl rfl (row_set (row_set (row_set (row_set (row_set (row_set (row_set (row_set (row_set (row_set (row_set (row_set (row_set (row_set (row_set hg3.out 0 _) 1 _) 2 _) 3 _) 4 _) 5 _) 6 _) 7 _) 8 _) 9 _) 10 _) 11 _) 12 _) 13 _) 14 _) rfl E.out (by have h := HB3.out; repeat (first | (with_reducible exact bR _) | (with_reducible refine bT ?_ (by assumption)) | (with_reducible apply bA) | (with_reducible apply bD) | (with_reducible apply bN) | (with_reducible refine bS ?_ (by first | omega | (simp; done) | (simp; omega)))))⟩
  by_cases h4 : d = 4
  · exact refGet_g4 ad c d l' w hr hlc hc9 hb hcd (by omega) h8 h7 h4
  · exact refGet_g3 ad c d l' w hr hlc hc9 hb hcd (by omega) h8 h7 h4
end Go.Proofs.YtnbghgenaolfgaaGreat

namespace Go.Proofs.YtnbghgenaolfgaaGreat
open Go.RowKit
set_option linter.unusedVariables false
set_option maxRecDepth 100000
set_option linter.unusedSimpArgs false

theorem layV_le (k : Int) (c : List Int) (hv : ∀ x ∈ c, x ≤ 9223372036854775807) : ∀ x ∈ layV k c, x ≤ 9223372036854775807 := by
  intro x hx
  obtain ⟨y, _, rfl⟩ := List.mem_map.1 hx
  by_cases hy : y.1 < c.length
  · exact hv _ (getD_mem hy)
  · rw [List.getD_eq_getElem?_getD, List.getElem?_eq_none (by omega)]; simp
theorem layV_len (k : Int) (c : List Int) : (layV k c).length ≤ 13 := by unfold layV; rw [List.length_map]; exact fl_le k
theorem layV4 (a0 a1 a2 a3 a4 a5 a6 a7 a8 a9 a10 a11 a12 a13 a14 : Int) (h : a1 = 4) : layV a1 [a0, a1, a2, a3, a4, a5, a6, a7, a8, a9, a10, a11, a12, a13, a14] = [a1, a0, a4, a5, a7, a8, a10, a2, a3, a9] ++ [a12, a13, a11] := by subst h; rfl
theorem layV0 (a0 a1 a2 a3 a4 a5 a6 a7 a8 a9 a10 a11 a12 a13 a14 : Int) (h1 : ¬ a1 < 1) (h2 : ¬ 4 < a1) (h : ¬ a1 = 4) : layV a1 [a0, a1, a2, a3, a4, a5, a6, a7, a8, a9, a10, a11, a12, a13, a14] = [a1, a0, a4, a5, a7, a8, a10, a2, a3] ++ [a12, a13, a11] := by
  have hk : a1 = 1 ∨ a1 = 2 ∨ a1 = 3 := by omega
  rcases hk with rfl | rfl | rfl <;> rfl

set_option maxHeartbeats 8000000 in
set_option maxRecDepth 100000 in
theorem refLayPut_full (a0 a1 a2 a3 a4 a5 a6 a7 a8 a9 a10 a11 a12 a13 a14 : Int) (w : World) (hv : ∀ x ∈ [a0, a1, a2, a3, a4, a5, a6, a7, a8, a9, a10, a11, a12, a13, a14], x ≤ 9223372036854775807)
    (hT : tkB a0 a1 a2 a3 a4 a5 a6 a7 a8 a9 a10 = true) (hS : suB a9 a12 a13 = true) (d1 : decide (a11 < 0) = false) (d2 : decide (99 < a11) = false) (d3 : (a14 != 0) = false) (d4 : (a6 != 0) = false) (d5 : decide (9999999 < a0) = false) :
    Calls Tryz.prog 43 #[.agg #[.int .i64 a0, .int .i64 a1, .int .i64 a2, .int .i64 a3, .int .i64 a4, .int .i64 a5, .int .i64 a6, .int .i64 a7, .int .i64 a8, .int .i64 a9, .int .i64 a10, .int .i64 a11, .int .i64 a12, .int .i64 a13, .int .i64 a14]] w (LayRet (joinR (layV a1 [a0, a1, a2, a3, a4, a5, a6, a7, a8, a9, a10, a11, a12, a13, a14]) (wsL a1)) w) := by
  obtain ⟨i0, hi, hz0, hz1, hz2⟩ := info_parts infoI64
  obtain ⟨hk1, hk2⟩ := tk_kind hT
  by_cases h4 : a1 = 4
  · have HV := Lib.hid (layV4 a0 a1 a2 a3 a4 a5 a6 a7 a8 a9 a10 a11 a12 a13 a14 h4)
    have d6 : (a1 == 4) = true := by simpa using h4
    clear h4
    have hoL : ∀ w2 : World, (w2.alloc (.cells #[.int .i64 a1, .int .i64 a0, .int .i64 a4, .int .i64 a5, .int .i64 a7, .int .i64 a8, .int .i64 a10, .int .i64 a2, .int .i64 a3] 3)).ownsRow w2.heap.size 3 1 (.slice (some ⟨w2.heap.size, 0, none⟩) 9 9) [a1, a0, a4, a5, a7, a8, a10, a2, a3].length ([a1, a0, a4, a5, a7, a8, a10, a2, a3].map (.int .i64)) := fun w2 => own_litL w2 [a1, a0, a4, a5, a7, a8, a10, a2, a3] _ (maxLen_ge (by simp))
    go_enter Tryz.func43, Tryz.ntmps43
    go_wp2_with (first | (go_at_call 98; (with_reducible refine (refIs_any _ _ _ _ _ _ _ _ _ _ _ _).mono ?_); rintro e w1 ⟨rfl, hb1⟩; obtain ⟨hc1, hf1⟩ := bcell hb1; have hx1 : w.heap.size + 1 < w1.heap.size := (by have := hb1.size; simp at this; omega); have hy1 : w.heap.size < w1.heap.size := (by omega); have HB1 := Lib.hid (bT (bA (bel1 w _) _) hb1); clear hb1) | (go_at_call 99; (with_reducible refine (refSuits_any a0 a1 a2 a3 a4 a5 a6 a7 a8 a9 a10 a12 a13 _).mono ?_); rintro e w2 ⟨rfl, hb2⟩; obtain ⟨hc2, hf2⟩ := bcell hb2; have hx2 : w.heap.size + 1 < w2.heap.size := (by have := hb2.size; omega); have hy2 : w.heap.size < w2.heap.size := (by omega); have HB2 := Lib.hid (bT HB1.out hb2); clear hb2) | (at_builtin; refine wpL_app (k := .i64) rfl _ _ 40 rfl w2.heap.size 3 i0 (.int .i64 0) 8 Tryz.underlying40 hi hz0 hz1 hz2 rfl _ [a1, a0, a4, a5, a7, a8, a10, a2, a3] rfl ((hoL _).alloc _) _ _ [a9] rfl (RdI.lit' (l := [a9]) (by simp)) ?_ ?_ ?_ ?_; (focus (simp only [List.length_append, List.length_cons, List.length_nil]; exact maxLen_ge (by omega))); (focus (simp only [List.length_append, List.length_cons, List.length_nil]; omega)); (focus (simp; omega)); intro v5 w5 ho5 hg5 _; have hb5 := bG (bA (bA (bR w2) _) _) hg5 (own_ge (hoL w2)); have hle5 : w2.heap.size ≤ w5.heap.size := hb5.size; obtain ⟨hc5, hf5⟩ := bcell hb5; have hz5 : w.heap.size < w5.heap.size := (by have := hb5.size; omega); have hy5 : w.heap.size + 1 < w5.heap.size := (by have := hb5.size; omega); have HB5 := Lib.hid (bT HB2.out hb5)) | (at_builtin; refine wpL_app (k := .i64) rfl _ _ 40 rfl w2.heap.size 3 i0 (.int .i64 0) 8 Tryz.underlying40 hi hz0 hz1 hz2 rfl _ ([a1, a0, a4, a5, a7, a8, a10, a2, a3] ++ [a9]) rfl (ho5.alloc _) _ _ [a12, a13, a11] rfl (RdI.lit' (l := [a12, a13, a11]) (by simp)) ?_ ?_ ?_ ?_; (focus (simp only [List.length_append, List.length_cons, List.length_nil]; exact maxLen_ge (by omega))); (focus (simp only [List.length_append, List.length_cons, List.length_nil]; omega)); (focus (simp; omega)); intro v6 w6 ho6 hg6 _; have hb6 := bG (bA hb5 _) hg6 (own_ge ho5); have hle6 : w2.heap.size ≤ w6.heap.size := hb6.size; obtain ⟨hc6, hf6⟩ := bcell hb6; have hz6 : w.heap.size < w6.heap.size := (by have := hb6.size; omega); have hy6 : w.heap.size + 1 < w6.heap.size := (by have := hb6.size; omega); have HB6 := Lib.hid (bT HB2.out hb6)))
    have ho7 : w6.ownsRow w2.heap.size 3 1 v6 (layV a1 [a0, a1, a2, a3, a4, a5, a6, a7, a8, a9, a10, a11, a12, a13, a14]).length ((layV a1 [a0, a1, a2, a3, a4, a5, a6, a7, a8, a9, a10, a11, a12, a13, a14]).map (.int .i64)) := by rw [HV.out]; exact ho6
    have hva := layV_le a1 _ hv
    have hal := layV_len a1 [a0, a1, a2, a3, a4, a5, a6, a7, a8, a9, a10, a11, a12, a13, a14]
    obtain ⟨acc, hacc⟩ : ∃ acc, layV a1 [a0, a1, a2, a3, a4, a5, a6, a7, a8, a9, a10, a11, a12, a13, a14] = acc := ⟨_, rfl⟩
    rw [hacc] at ho7 hva hal
    have HACC := Lib.hid hacc
    have HB6' := Lib.hid HB6.out
    obtain ⟨aA, ac, rfl, _, _⟩ := own_slice ho7
    have ar := RdI.of_own ho7
    clear ho6 ho7 hacc hg6
    refine (refWidths_any a1 _).mono ?_
    rintro e w7 ⟨u, rfl, uo, hb7⟩
    obtain ⟨uA, uc, rfl, _, _⟩ := own_slice uo
    have ur := RdI.of_own uo
    replace ar := ar.below hb7
    have HB7 := Lib.hid (bT HB6.out hb7)
    clear uo hb7
    go_wp2_with fail
    refine (refJoin_any _ _ _ _ acc (wsL a1) _ ar ur (by omega) (by have := wsL_le a1; omega) hva).mono ?_
    rintro e w8 ⟨z, rfl, zo, hb8⟩
    obtain ⟨zA, zc, rfl, _, _⟩ := own_slice zo
    have HO8 := Lib.hid zo
    have HB8 := Lib.hid (bT HB7.out hb8)
    clear zo hb8
    go_wp2
    go_ret2
    rw [HACC.out]
    exact ⟨.slice zA (joinR acc (wsL a1)).1.length zc, rfl, own_base HO8.out HB7.out.size, HB8.out⟩
  · have HV := Lib.hid (layV0 a0 a1 a2 a3 a4 a5 a6 a7 a8 a9 a10 a11 a12 a13 a14 hk1 hk2 h4)
    have d6 : (a1 == 4) = false := by simpa using h4
    clear h4
    have hoL : ∀ w2 : World, (w2.alloc (.cells #[.int .i64 a1, .int .i64 a0, .int .i64 a4, .int .i64 a5, .int .i64 a7, .int .i64 a8, .int .i64 a10, .int .i64 a2, .int .i64 a3] 3)).ownsRow w2.heap.size 3 1 (.slice (some ⟨w2.heap.size, 0, none⟩) 9 9) [a1, a0, a4, a5, a7, a8, a10, a2, a3].length ([a1, a0, a4, a5, a7, a8, a10, a2, a3].map (.int .i64)) := fun w2 => own_litL w2 [a1, a0, a4, a5, a7, a8, a10, a2, a3] _ (maxLen_ge (by simp))
    go_enter Tryz.func43, Tryz.ntmps43
    go_wp2_with (first | (go_at_call 98; (with_reducible refine (refIs_any _ _ _ _ _ _ _ _ _ _ _ _).mono ?_); rintro e w1 ⟨rfl, hb1⟩; obtain ⟨hc1, hf1⟩ := bcell hb1; have hx1 : w.heap.size + 1 < w1.heap.size := (by have := hb1.size; simp at this; omega); have hy1 : w.heap.size < w1.heap.size := (by omega); have HB1 := Lib.hid (bT (bA (bel1 w _) _) hb1); clear hb1) | (go_at_call 99; (with_reducible refine (refSuits_any a0 a1 a2 a3 a4 a5 a6 a7 a8 a9 a10 a12 a13 _).mono ?_); rintro e w2 ⟨rfl, hb2⟩; obtain ⟨hc2, hf2⟩ := bcell hb2; have hx2 : w.heap.size + 1 < w2.heap.size := (by have := hb2.size; omega); have hy2 : w.heap.size < w2.heap.size := (by omega); have HB2 := Lib.hid (bT HB1.out hb2); clear hb2) | (at_builtin; refine wpL_app (k := .i64) rfl _ _ 40 rfl w2.heap.size 3 i0 (.int .i64 0) 8 Tryz.underlying40 hi hz0 hz1 hz2 rfl _ [a1, a0, a4, a5, a7, a8, a10, a2, a3] rfl ((hoL _).alloc _) _ _ [a12, a13, a11] rfl (RdI.lit' (l := [a12, a13, a11]) (by simp)) ?_ ?_ ?_ ?_; (focus (simp only [List.length_append, List.length_cons, List.length_nil]; exact maxLen_ge (by omega))); (focus (simp only [List.length_append, List.length_cons, List.length_nil]; omega)); (focus (simp; omega)); intro v6 w6 ho6 hg6 _; have hb6 := bG (bA (bA (bR w2) _) _) hg6 (own_ge (hoL w2)); have hle6 : w2.heap.size ≤ w6.heap.size := hb6.size; obtain ⟨hc6, hf6⟩ := bcell hb6; have hz6 : w.heap.size < w6.heap.size := (by have := hb6.size; omega); have hy6 : w.heap.size + 1 < w6.heap.size := (by have := hb6.size; omega); have HB6 := Lib.hid (bT HB2.out hb6)))
    have ho7 : w6.ownsRow w2.heap.size 3 1 v6 (layV a1 [a0, a1, a2, a3, a4, a5, a6, a7, a8, a9, a10, a11, a12, a13, a14]).length ((layV a1 [a0, a1, a2, a3, a4, a5, a6, a7, a8, a9, a10, a11, a12, a13, a14]).map (.int .i64)) := by rw [HV.out]; exact ho6
    have hva := layV_le a1 _ hv
    have hal := layV_len a1 [a0, a1, a2, a3, a4, a5, a6, a7, a8, a9, a10, a11, a12, a13, a14]
    obtain ⟨acc, hacc⟩ : ∃ acc, layV a1 [a0, a1, a2, a3, a4, a5, a6, a7, a8, a9, a10, a11, a12, a13, a14] = acc := ⟨_, rfl⟩
    rw [hacc] at ho7 hva hal
    have HACC := Lib.hid hacc
    have HB6' := Lib.hid HB6.out
    obtain ⟨aA, ac, rfl, _, _⟩ := own_slice ho7
    have ar := RdI.of_own ho7
    clear ho6 ho7 hacc hg6
    refine (refWidths_any a1 _).mono ?_
    rintro e w7 ⟨u, rfl, uo, hb7⟩
    obtain ⟨uA, uc, rfl, _, _⟩ := own_slice uo
    have ur := RdI.of_own uo
    replace ar := ar.below hb7
    have HB7 := Lib.hid (bT HB6.out hb7)
    clear uo hb7
    go_wp2_with fail
    refine (refJoin_any _ _ _ _ acc (wsL a1) _ ar ur (by omega) (by have := wsL_le a1; omega) hva).mono ?_
    rintro e w8 ⟨z, rfl, zo, hb8⟩
    obtain ⟨zA, zc, rfl, _, _⟩ := own_slice zo
    have HO8 := Lib.hid zo
    have HB8 := Lib.hid (bT HB7.out hb8)
    clear zo hb8
    go_wp2
    go_ret2
    rw [HACC.out]
    exact ⟨.slice zA (joinR acc (wsL a1)).1.length zc, rfl, own_base HO8.out HB7.out.size, HB8.out⟩

set_option maxHeartbeats 8000000 in
set_option maxRecDepth 100000 in
theorem refLayPut_any (a0 a1 a2 a3 a4 a5 a6 a7 a8 a9 a10 a11 a12 a13 a14 : Int) (w : World) (hv : ∀ x ∈ [a0, a1, a2, a3, a4, a5, a6, a7, a8, a9, a10, a11, a12, a13, a14], x ≤ 9223372036854775807) :
    Calls Tryz.prog 43 #[.agg #[.int .i64 a0, .int .i64 a1, .int .i64 a2, .int .i64 a3, .int .i64 a4, .int .i64 a5, .int .i64 a6, .int .i64 a7, .int .i64 a8, .int .i64 a9, .int .i64 a10, .int .i64 a11, .int .i64 a12, .int .i64 a13, .int .i64 a14]] w (LayRet (layR (tkB a0 a1 a2 a3 a4 a5 a6 a7 a8 a9 a10) [a0, a1, a2, a3, a4, a5, a6, a7, a8, a9, a10, a11, a12, a13, a14]) w) := by
  cases hT : tkB a0 a1 a2 a3 a4 a5 a6 a7 a8 a9 a10 with
  | false =>
    have E := Lib.hid (show layR false [a0, a1, a2, a3, a4, a5, a6, a7, a8, a9, a10, a11, a12, a13, a14] = ([], 1) by unfold layR; rw [if_pos (by simp)])
    go_enter Tryz.func43, Tryz.ntmps43
    go_wp2_with (first | (go_at_call 98; (with_reducible refine (refIs_any _ _ _ _ _ _ _ _ _ _ _ _).mono ?_); rintro e w1 ⟨rfl, hb1⟩; obtain ⟨hc1, hf1⟩ := bcell hb1; have hz1 : w.heap.size + 1 < w1.heap.size := (by have := hb1.size; simp at this; omega); have hy1 : w.heap.size < w1.heap.size := (by omega); have HB1 := Lib.hid (bT (bA (bel1 w _) _) hb1); clear hb1) | (go_at_call 99; (with_reducible refine (refSuits_any a0 a1 a2 a3 a4 a5 a6 a7 a8 a9 a10 a12 a13 _).mono ?_); rintro e w2 ⟨rfl, hb2⟩; obtain ⟨hc2, hf2⟩ := bcell hb2; have hz2 : w.heap.size + 1 < w2.heap.size := (by have := hb2.size; omega); have hy2 : w.heap.size < w2.heap.size := (by omega); have HB2 := Lib.hid (bT HB1.out hb2); clear hb2))
    go_ret2
    exact ⟨_, by rw [E.out] <;> rfl, by rw [E.out]; exact World.ownsRow_nil _ _ _ _, HB1.out⟩
  | true =>
  cases hS : suB a9 a12 a13 with
  | false =>
    have E := Lib.hid (show layR true [a0, a1, a2, a3, a4, a5, a6, a7, a8, a9, a10, a11, a12, a13, a14] = ([], 1) by unfold layR; rw [if_pos (by simp [hS])])
    go_enter Tryz.func43, Tryz.ntmps43
    go_wp2_with (first | (go_at_call 98; (with_reducible refine (refIs_any _ _ _ _ _ _ _ _ _ _ _ _).mono ?_); rintro e w1 ⟨rfl, hb1⟩; obtain ⟨hc1, hf1⟩ := bcell hb1; have hz1 : w.heap.size + 1 < w1.heap.size := (by have := hb1.size; simp at this; omega); have hy1 : w.heap.size < w1.heap.size := (by omega); have HB1 := Lib.hid (bT (bA (bel1 w _) _) hb1); clear hb1) | (go_at_call 99; (with_reducible refine (refSuits_any a0 a1 a2 a3 a4 a5 a6 a7 a8 a9 a10 a12 a13 _).mono ?_); rintro e w2 ⟨rfl, hb2⟩; obtain ⟨hc2, hf2⟩ := bcell hb2; have hz2 : w.heap.size + 1 < w2.heap.size := (by have := hb2.size; omega); have hy2 : w.heap.size < w2.heap.size := (by omega); have HB2 := Lib.hid (bT HB1.out hb2); clear hb2))
    go_ret2
    exact ⟨_, by rw [E.out] <;> rfl, by rw [E.out]; exact World.ownsRow_nil _ _ _ _, HB2.out⟩
  | true =>
  by_cases h1 : a11 < 0
  · have E := Lib.hid (show layR true [a0, a1, a2, a3, a4, a5, a6, a7, a8, a9, a10, a11, a12, a13, a14] = ([], 1) by unfold layR; rw [if_pos (by simp [hS]; omega)])
    have d1 : decide (a11 < 0) = true := by simpa using h1
    go_enter Tryz.func43, Tryz.ntmps43
    go_wp2_with (first | (go_at_call 98; (with_reducible refine (refIs_any _ _ _ _ _ _ _ _ _ _ _ _).mono ?_); rintro e w1 ⟨rfl, hb1⟩; obtain ⟨hc1, hf1⟩ := bcell hb1; have hz1 : w.heap.size + 1 < w1.heap.size := (by have := hb1.size; simp at this; omega); have hy1 : w.heap.size < w1.heap.size := (by omega); have HB1 := Lib.hid (bT (bA (bel1 w _) _) hb1); clear hb1) | (go_at_call 99; (with_reducible refine (refSuits_any a0 a1 a2 a3 a4 a5 a6 a7 a8 a9 a10 a12 a13 _).mono ?_); rintro e w2 ⟨rfl, hb2⟩; obtain ⟨hc2, hf2⟩ := bcell hb2; have hz2 : w.heap.size + 1 < w2.heap.size := (by have := hb2.size; omega); have hy2 : w.heap.size < w2.heap.size := (by omega); have HB2 := Lib.hid (bT HB1.out hb2); clear hb2))
    go_ret2
    exact ⟨_, by rw [E.out] <;> rfl, by rw [E.out]; exact World.ownsRow_nil _ _ _ _, HB2.out⟩
  have d1 : decide (a11 < 0) = false := by simpa using h1
  by_cases h2 : 100 ≤ a11
  · have E := Lib.hid (show layR true [a0, a1, a2, a3, a4, a5, a6, a7, a8, a9, a10, a11, a12, a13, a14] = ([], 1) by unfold layR; rw [if_pos (by simp [hS]; omega)])
    have d2 : decide (99 < a11) = true := by rw [decide_eq_true_eq]; omega
    go_enter Tryz.func43, Tryz.ntmps43
    go_wp2_with (first | (go_at_call 98; (with_reducible refine (refIs_any _ _ _ _ _ _ _ _ _ _ _ _).mono ?_); rintro e w1 ⟨rfl, hb1⟩; obtain ⟨hc1, hf1⟩ := bcell hb1; have hz1 : w.heap.size + 1 < w1.heap.size := (by have := hb1.size; simp at this; omega); have hy1 : w.heap.size < w1.heap.size := (by omega); have HB1 := Lib.hid (bT (bA (bel1 w _) _) hb1); clear hb1) | (go_at_call 99; (with_reducible refine (refSuits_any a0 a1 a2 a3 a4 a5 a6 a7 a8 a9 a10 a12 a13 _).mono ?_); rintro e w2 ⟨rfl, hb2⟩; obtain ⟨hc2, hf2⟩ := bcell hb2; have hz2 : w.heap.size + 1 < w2.heap.size := (by have := hb2.size; omega); have hy2 : w.heap.size < w2.heap.size := (by omega); have HB2 := Lib.hid (bT HB1.out hb2); clear hb2))
    go_ret2
    exact ⟨_, by rw [E.out] <;> rfl, by rw [E.out]; exact World.ownsRow_nil _ _ _ _, HB2.out⟩
  have d2 : decide (99 < a11) = false := by rw [decide_eq_false_iff_not]; omega
  by_cases h3 : a14 = 0
  rotate_left
  · have E := Lib.hid (show layR true [a0, a1, a2, a3, a4, a5, a6, a7, a8, a9, a10, a11, a12, a13, a14] = ([], 1) by unfold layR; rw [if_pos (by simp [hS]; omega)])
    have d3 : (a14 != 0) = true := by simpa using h3
    go_enter Tryz.func43, Tryz.ntmps43
    go_wp2_with (first | (go_at_call 98; (with_reducible refine (refIs_any _ _ _ _ _ _ _ _ _ _ _ _).mono ?_); rintro e w1 ⟨rfl, hb1⟩; obtain ⟨hc1, hf1⟩ := bcell hb1; have hz1 : w.heap.size + 1 < w1.heap.size := (by have := hb1.size; simp at this; omega); have hy1 : w.heap.size < w1.heap.size := (by omega); have HB1 := Lib.hid (bT (bA (bel1 w _) _) hb1); clear hb1) | (go_at_call 99; (with_reducible refine (refSuits_any a0 a1 a2 a3 a4 a5 a6 a7 a8 a9 a10 a12 a13 _).mono ?_); rintro e w2 ⟨rfl, hb2⟩; obtain ⟨hc2, hf2⟩ := bcell hb2; have hz2 : w.heap.size + 1 < w2.heap.size := (by have := hb2.size; omega); have hy2 : w.heap.size < w2.heap.size := (by omega); have HB2 := Lib.hid (bT HB1.out hb2); clear hb2))
    go_ret2
    exact ⟨_, by rw [E.out] <;> rfl, by rw [E.out]; exact World.ownsRow_nil _ _ _ _, HB2.out⟩
  have d3 : (a14 != 0) = false := by simpa using h3
  have H3 := Lib.hid h3
  clear h3
  by_cases h4 : a6 = 0
  rotate_left
  · have E := Lib.hid (show layR true [a0, a1, a2, a3, a4, a5, a6, a7, a8, a9, a10, a11, a12, a13, a14] = ([], 18) by unfold layR; have h3 := H3.out; rw [if_neg (by simp [hS]; omega), if_pos (by simp; omega)])
    have d4 : (a6 != 0) = true := by simpa using h4
    go_enter Tryz.func43, Tryz.ntmps43
    go_wp2_with (first | (go_at_call 98; (with_reducible refine (refIs_any _ _ _ _ _ _ _ _ _ _ _ _).mono ?_); rintro e w1 ⟨rfl, hb1⟩; obtain ⟨hc1, hf1⟩ := bcell hb1; have hz1 : w.heap.size + 1 < w1.heap.size := (by have := hb1.size; simp at this; omega); have hy1 : w.heap.size < w1.heap.size := (by omega); have HB1 := Lib.hid (bT (bA (bel1 w _) _) hb1); clear hb1) | (go_at_call 99; (with_reducible refine (refSuits_any a0 a1 a2 a3 a4 a5 a6 a7 a8 a9 a10 a12 a13 _).mono ?_); rintro e w2 ⟨rfl, hb2⟩; obtain ⟨hc2, hf2⟩ := bcell hb2; have hz2 : w.heap.size + 1 < w2.heap.size := (by have := hb2.size; omega); have hy2 : w.heap.size < w2.heap.size := (by omega); have HB2 := Lib.hid (bT HB1.out hb2); clear hb2))
    go_ret2
    exact ⟨_, by rw [E.out] <;> rfl, by rw [E.out]; exact World.ownsRow_nil _ _ _ _, HB2.out⟩
  have d4 : (a6 != 0) = false := by simpa using h4
  have H4 := Lib.hid h4
  clear h4
  by_cases h5 : 9999999 < a0
  · have E := Lib.hid (show layR true [a0, a1, a2, a3, a4, a5, a6, a7, a8, a9, a10, a11, a12, a13, a14] = ([], 18) by unfold layR; have h3 := H3.out; rw [if_neg (by simp [hS]; omega), if_pos (by simp; omega)])
    have d5 : decide (9999999 < a0) = true := by simpa using h5
    go_enter Tryz.func43, Tryz.ntmps43
    go_wp2_with (first | (go_at_call 98; (with_reducible refine (refIs_any _ _ _ _ _ _ _ _ _ _ _ _).mono ?_); rintro e w1 ⟨rfl, hb1⟩; obtain ⟨hc1, hf1⟩ := bcell hb1; have hz1 : w.heap.size + 1 < w1.heap.size := (by have := hb1.size; simp at this; omega); have hy1 : w.heap.size < w1.heap.size := (by omega); have HB1 := Lib.hid (bT (bA (bel1 w _) _) hb1); clear hb1) | (go_at_call 99; (with_reducible refine (refSuits_any a0 a1 a2 a3 a4 a5 a6 a7 a8 a9 a10 a12 a13 _).mono ?_); rintro e w2 ⟨rfl, hb2⟩; obtain ⟨hc2, hf2⟩ := bcell hb2; have hz2 : w.heap.size + 1 < w2.heap.size := (by have := hb2.size; omega); have hy2 : w.heap.size < w2.heap.size := (by omega); have HB2 := Lib.hid (bT HB1.out hb2); clear hb2))
    go_ret2
    exact ⟨_, by rw [E.out] <;> rfl, by rw [E.out]; exact World.ownsRow_nil _ _ _ _, HB2.out⟩
  have d5 : decide (9999999 < a0) = false := by simpa using h5
  have E := Lib.hid (show layR true [a0, a1, a2, a3, a4, a5, a6, a7, a8, a9, a10, a11, a12, a13, a14] = joinR (layV a1 [a0, a1, a2, a3, a4, a5, a6, a7, a8, a9, a10, a11, a12, a13, a14]) (wsL a1) by have h3 := H3.out; have h4 := H4.out; unfold layR; rw [if_neg (by simp [hS]; omega), if_neg (by simp; omega)]; rfl)
  rw [E.out]
  exact refLayPut_full a0 a1 a2 a3 a4 a5 a6 a7 a8 a9 a10 a11 a12 a13 a14 w hv hT hS d1 d2 d3 d4 d5
end Go.Proofs.YtnbghgenaolfgaaGreat

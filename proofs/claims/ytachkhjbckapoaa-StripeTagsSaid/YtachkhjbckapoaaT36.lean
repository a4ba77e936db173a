/- Layer 13's Get: what layout's Get computes. No condition. -/
import Derived.Test.YtachkhjbckapoaaT35
import Derived.Test.YtachkhjbckapoaaT16
import Derived.StillTailTactics
namespace Go.Proofs.Ytachkhjbckapoaa
open Go.RowKit
set_option linter.unusedVariables false
set_option maxRecDepth 100000
set_option linter.unusedSimpArgs false

/-- The sheet's cells, out of a kind and the values. -/
def cellsOf (k : Int) (v : List Int) : List Int :=
  if k = 4 then [v.getD 1 0, v.getD 0 0, v.getD 7 0, v.getD 8 0, v.getD 2 0, v.getD 3 0, 0, v.getD 4 0, v.getD 5 0, v.getD 9 0, v.getD 6 0, v.getD 12 0, v.getD 10 0, v.getD 11 0, 0]
  else [v.getD 1 0, v.getD 0 0, v.getD 7 0, v.getD 8 0, v.getD 2 0, v.getD 3 0, 0, v.getD 4 0, v.getD 5 0, k % 3, v.getD 6 0, v.getD 11 0, v.getD 9 0, v.getD 10 0, 0]
def okC (c : List Int) : Bool := tkB (c.getD 0 0) (c.getD 1 0) (c.getD 2 0) (c.getD 3 0) (c.getD 4 0) (c.getD 5 0) (c.getD 6 0) (c.getD 7 0) (c.getD 8 0) (c.getD 9 0) (c.getD 10 0) && suB (c.getD 9 0) (c.getD 12 0) (c.getD 13 0)
def zeroC : List Int := [0, 0, 0, 0, 0, 0, 0, 0, 0, 0, 0, 0, 0, 0, 0]
def layG : List Int → List Int × Int
  | [] => (zeroC, 14)
  | d :: l => if 9 < d then (zeroC, 7) else if wsE d ≠ 0 then (zeroC, 8) else if (splitR (d :: l) (wsL d)).2 ≠ 0 then (zeroC, (splitR (d :: l) (wsL d)).2)
    else if okC (cellsOf d (splitR (d :: l) (wsL d)).1) = true then (cellsOf d (splitR (d :: l) (wsL d)).1, 0) else (zeroC, 9)
theorem layG_cons (d : Int) (l : List Int) : layG (d :: l) = if 9 < d then (zeroC, 7) else if wsE d ≠ 0 then (zeroC, 8) else if (splitR (d :: l) (wsL d)).2 ≠ 0 then (zeroC, (splitR (d :: l) (wsL d)).2)
    else if okC (cellsOf d (splitR (d :: l) (wsL d)).1) = true then (cellsOf d (splitR (d :: l) (wsL d)).1, 0) else (zeroC, 9) := rfl
def GetRet (r : List Int × Int) (w : World) (e : Ending) (w' : World) : Prop :=
  e = .returned (.tuple #[.agg (r.1.map (Value.int .i64)).toArray, .int .i64 r.2]) ∧ Below w.heap.size w w'

theorem wsE_kind {d : Int} (h : wsE d = 0) : ¬ d < 1 ∧ ¬ 4 < d := by
  unfold wsE at h
  split at h
  · omega
  · omega
theorem splitGo_vlen : ∀ (ws l acc : List Int), (splitGo l ws acc).2 = 0 → (splitGo l ws acc).1.length = acc.length + ws.length
  | [], l, acc, h => by simp [splitGo]
  | x :: ws, l, acc, h => by
    rw [splitGo_cons] at h ⊢
    split
    · rename_i hg; rw [if_pos hg] at h; exact absurd h hg
    · rename_i hg
      rw [if_neg hg] at h
      rw [splitGo_vlen ws _ _ h]
      simp only [List.length_append, List.length_cons, List.length_nil]
      omega
theorem splitR_vlen {l ws : List Int} (h : (splitR l ws).2 = 0) : (splitR l ws).1.length = ws.length := by
  unfold splitR at h ⊢
  split
  · rename_i h20; rw [if_pos h20] at h; simp at h
  · rename_i h20
    rw [if_neg h20] at h
    split
    · rename_i hs; rw [hs] at h; simp at h
    · rename_i s hs
      rw [hs] at h
      simp only at h
      split
      · rename_i hn; rw [if_pos hn] at h; simp at h
      · rename_i hn
        rw [if_neg hn] at h
        rw [splitGo_vlen _ _ _ h]; simp
/-- The sheet's cells, the first j fields stored. -/
def putAt (L : List (Nat × Int)) (V c : List Int) : Nat → List Int
  | 0 => c
  | j + 1 => (putAt L V c j).set (L.getD j (0, 0)).1 (V.getD j 0)
def blankC (k : Int) : List Int := [0, k, 0, 0, 0, 0, 0, 0, 0, k % 3, 0, 0, 0, 0, 0]
theorem putAt_len (L : List (Nat × Int)) (V c : List Int) : ∀ j, (putAt L V c j).length = c.length
  | 0 => rfl
  | j + 1 => by rw [putAt, List.length_set, putAt_len L V c j]
theorem row_set {W : World} {g : Nat} {cs : Array Value} {ty : TypeId} {fr : Nat × Nat} (h : W.heap[g]? = some (.cells cs ty fr)) (o : Nat) (v : Value) : (W.setCell ⟨g, o, none⟩ v).heap[g]? = some (.cells (cs.setIfInBounds o v) ty fr) := by
  obtain ⟨hlt, hk⟩ := Array.getElem?_eq_some_iff.1 h
  show (W.heap.modify g _)[g]? = _
  rw [Array.getElem?_eq_getElem (by rw [Array.size_modify]; exact hlt), Array.getElem_modify_self, hk]
  rfl
theorem results_cellrow {P : Program} {fn : Func} {t u : Tmp} {T ty : TypeId} (h : fn.results = #[.cell t T, .tmp u]) {d : TypeDesc} (hu : P.underlying T = some d) (hd : (match d with | .struct _ | .array _ _ => true | _ => false) = true)
    {tmps : Array Value} {g : Nat} {v : Value} {cs : Array Value} {fr : Nat × Nat} (hp : tmps.getD t undef = .pointer (some ⟨g, 0, none⟩)) (hv : tmps.getD u undef = v) {w : World} (hg : w.heap[g]? = some (.cells cs ty fr)) (hi : (P.info? T).map (·.size) = some cs.size) :
    (results fn tmps).run P w = .ok (.tuple #[.agg cs, v]) w := by
  have hl := run_loadVar_row (P := P) w g ty T cs fr d hg hu hd hi
  simp only [results, h, Array.mapM_eq_mapM_toList, List.mapM_cons, List.mapM_nil]
  simp [Sem.run_bind, hp, hv, asAddr, hl, Result.andThen]

theorem set15 {W : World} {g : Nat} {ty : TypeId} {fr : Nat × Nat} {z : Value} (v0 v1 v2 v3 v4 v5 v6 v7 v8 v9 v10 v11 v12 v13 v14 : Value) (h : W.heap[g]? = some (.cells #[z, z, z, z, z, z, z, z, z, z, z, z, z, z, z] ty fr)) :
    (((((((((((((((W.setCell ⟨g, 0, none⟩ v0).setCell ⟨g, 1, none⟩ v1).setCell ⟨g, 2, none⟩ v2).setCell ⟨g, 3, none⟩ v3).setCell ⟨g, 4, none⟩ v4).setCell ⟨g, 5, none⟩ v5).setCell ⟨g, 6, none⟩ v6).setCell ⟨g, 7, none⟩ v7).setCell ⟨g, 8, none⟩ v8).setCell ⟨g, 9, none⟩ v9).setCell ⟨g, 10, none⟩ v10).setCell ⟨g, 11, none⟩ v11).setCell ⟨g, 12, none⟩ v12).setCell ⟨g, 13, none⟩ v13).setCell ⟨g, 14, none⟩ v14).heap[g]? = some (.cells #[v0, v1, v2, v3, v4, v5, v6, v7, v8, v9, v10, v11, v12, v13, v14] ty fr) := by
  have h := (row_set (row_set (row_set (row_set (row_set (row_set (row_set (row_set (row_set (row_set (row_set (row_set (row_set (row_set (row_set h 0 v0) 1 v1) 2 v2) 3 v3) 4 v4) 5 v5) 6 v6) 7 v7) 8 v8) 9 v9) 10 v10) 11 v11) 12 v12) 13 v13) 14 v14)
  simpa only [List.setIfInBounds_toArray, List.set_cons_zero, List.set_cons_succ] using h
theorem getOut {W w : World} {tmps : Array Value} {l : List Int} {c : List Int} {e : Int} {fr : Nat × Nat} {ty : TypeId} (hp : tmps.getD 2 undef = .pointer (some ⟨w.heap.size, 0, none⟩)) (hq : tmps.getD 3 undef = .int .i64 e)
    (hg : W.heap[w.heap.size]? = some (.cells (c.map (Value.int .i64)).toArray ty fr)) (hc : c.length = 15) (hE : layG l = (c, e)) (hb : Below w.heap.size w W) :
    ∃ u, (results Try.f60 tmps).run Try.prog W = .ok u W ∧ GetRet (layG l) w (.returned u) W := by
  refine ⟨_, results_cellrow (ty := ty) rfl Try.underlying28 rfl hp hq hg ?_, by rw [hE], hb⟩
  rw [show (c.map (Value.int .i64)).toArray.size = 15 by simp [hc]]
  kernel_rfl

theorem put_cells {d : Int} (h1 : ¬ d < 1) (h4 : ¬ 4 < d) (V : List Int) : putAt (fl d) V (blankC d) (fl d).length = cellsOf d V := by
  obtain rfl | rfl | rfl | rfl : d = 1 ∨ d = 2 ∨ d = 3 ∨ d = 4 := by omega
  all_goals rfl
theorem cellsOf_15 (d : Int) (V : List Int) : ∃ c0 c1 c2 c3 c4 c5 c6 c7 c8 c9 c10 c11 c12 c13 c14, cellsOf d V = [c0, c1, c2, c3, c4, c5, c6, c7, c8, c9, c10, c11, c12, c13, c14] := by
  unfold cellsOf
  split
  · exact ⟨_, _, _, _, _, _, _, _, _, _, _, _, _, _, _, rfl⟩
  · exact ⟨_, _, _, _, _, _, _, _, _, _, _, _, _, _, _, rfl⟩
theorem sh_below {b : Nat} {W w9 : World} {c0 c1 c2 c3 c4 c5 c6 c7 c8 c9 c10 c11 c12 c13 c14 : Int} (h : b < W.heap.size ∧ W.cell? ⟨b, 0, none⟩ = some (.int .i64 c0) ∧ W.cell? ⟨b, 1, none⟩ = some (.int .i64 c1) ∧ W.cell? ⟨b, 2, none⟩ = some (.int .i64 c2) ∧ W.cell? ⟨b, 3, none⟩ = some (.int .i64 c3) ∧ W.cell? ⟨b, 4, none⟩ = some (.int .i64 c4) ∧ W.cell? ⟨b, 5, none⟩ = some (.int .i64 c5) ∧ W.cell? ⟨b, 6, none⟩ = some (.int .i64 c6) ∧ W.cell? ⟨b, 7, none⟩ = some (.int .i64 c7) ∧ W.cell? ⟨b, 8, none⟩ = some (.int .i64 c8) ∧ W.cell? ⟨b, 9, none⟩ = some (.int .i64 c9) ∧ W.cell? ⟨b, 10, none⟩ = some (.int .i64 c10) ∧ W.cell? ⟨b, 11, none⟩ = some (.int .i64 c11) ∧ W.cell? ⟨b, 12, none⟩ = some (.int .i64 c12) ∧ W.cell? ⟨b, 13, none⟩ = some (.int .i64 c13) ∧ W.cell? ⟨b, 14, none⟩ = some (.int .i64 c14)) (hb : Below W.heap.size W w9) : b < w9.heap.size ∧ w9.cell? ⟨b, 0, none⟩ = some (.int .i64 c0) ∧ w9.cell? ⟨b, 1, none⟩ = some (.int .i64 c1) ∧ w9.cell? ⟨b, 2, none⟩ = some (.int .i64 c2) ∧ w9.cell? ⟨b, 3, none⟩ = some (.int .i64 c3) ∧ w9.cell? ⟨b, 4, none⟩ = some (.int .i64 c4) ∧ w9.cell? ⟨b, 5, none⟩ = some (.int .i64 c5) ∧ w9.cell? ⟨b, 6, none⟩ = some (.int .i64 c6) ∧ w9.cell? ⟨b, 7, none⟩ = some (.int .i64 c7) ∧ w9.cell? ⟨b, 8, none⟩ = some (.int .i64 c8) ∧ w9.cell? ⟨b, 9, none⟩ = some (.int .i64 c9) ∧ w9.cell? ⟨b, 10, none⟩ = some (.int .i64 c10) ∧ w9.cell? ⟨b, 11, none⟩ = some (.int .i64 c11) ∧ w9.cell? ⟨b, 12, none⟩ = some (.int .i64 c12) ∧ w9.cell? ⟨b, 13, none⟩ = some (.int .i64 c13) ∧ w9.cell? ⟨b, 14, none⟩ = some (.int .i64 c14) :=
  ⟨Nat.lt_of_lt_of_le h.1 hb.size, by have hl := h.1; obtain ⟨hc, _⟩ := bcell hb; simp only [hc b _ hl]; exact h.2⟩
theorem sh2_below {b : Nat} {wr W w9 : World} {c0 c1 c2 c3 c4 c5 c6 c7 c8 c9 c10 c11 c12 c13 c14 : Int} (h : (b < W.heap.size ∧ W.cell? ⟨b, 0, none⟩ = some (.int .i64 c0) ∧ W.cell? ⟨b, 1, none⟩ = some (.int .i64 c1) ∧ W.cell? ⟨b, 2, none⟩ = some (.int .i64 c2) ∧ W.cell? ⟨b, 3, none⟩ = some (.int .i64 c3) ∧ W.cell? ⟨b, 4, none⟩ = some (.int .i64 c4) ∧ W.cell? ⟨b, 5, none⟩ = some (.int .i64 c5) ∧ W.cell? ⟨b, 6, none⟩ = some (.int .i64 c6) ∧ W.cell? ⟨b, 7, none⟩ = some (.int .i64 c7) ∧ W.cell? ⟨b, 8, none⟩ = some (.int .i64 c8) ∧ W.cell? ⟨b, 9, none⟩ = some (.int .i64 c9) ∧ W.cell? ⟨b, 10, none⟩ = some (.int .i64 c10) ∧ W.cell? ⟨b, 11, none⟩ = some (.int .i64 c11) ∧ W.cell? ⟨b, 12, none⟩ = some (.int .i64 c12) ∧ W.cell? ⟨b, 13, none⟩ = some (.int .i64 c13) ∧ W.cell? ⟨b, 14, none⟩ = some (.int .i64 c14)) ∧ Below wr.heap.size wr W) (hb : Below W.heap.size W w9) : (b < w9.heap.size ∧ w9.cell? ⟨b, 0, none⟩ = some (.int .i64 c0) ∧ w9.cell? ⟨b, 1, none⟩ = some (.int .i64 c1) ∧ w9.cell? ⟨b, 2, none⟩ = some (.int .i64 c2) ∧ w9.cell? ⟨b, 3, none⟩ = some (.int .i64 c3) ∧ w9.cell? ⟨b, 4, none⟩ = some (.int .i64 c4) ∧ w9.cell? ⟨b, 5, none⟩ = some (.int .i64 c5) ∧ w9.cell? ⟨b, 6, none⟩ = some (.int .i64 c6) ∧ w9.cell? ⟨b, 7, none⟩ = some (.int .i64 c7) ∧ w9.cell? ⟨b, 8, none⟩ = some (.int .i64 c8) ∧ w9.cell? ⟨b, 9, none⟩ = some (.int .i64 c9) ∧ w9.cell? ⟨b, 10, none⟩ = some (.int .i64 c10) ∧ w9.cell? ⟨b, 11, none⟩ = some (.int .i64 c11) ∧ w9.cell? ⟨b, 12, none⟩ = some (.int .i64 c12) ∧ w9.cell? ⟨b, 13, none⟩ = some (.int .i64 c13) ∧ w9.cell? ⟨b, 14, none⟩ = some (.int .i64 c14)) ∧ Below wr.heap.size wr w9 :=
  ⟨sh_below h.1 hb, bT h.2 hb⟩
theorem gb_step {w5 wr : World} {g off : Nat} {v : Value} {o : Obj} (hg : w5.grownBy wr (some g)) : w5.grownBy ((wr.alloc o).setCell ⟨g, off, none⟩ v).drew (some g) :=
  ⟨hg.os, hg.tape, hg.output, Nat.le_trans hg.size (by show _ ≤ ((wr.alloc o).heap.modify g _).size; rw [Array.size_modify]; exact (World.grownBy_alloc wr o none).size),
    fun k hk hne => ((Below.heap_setCell _ _ _ k (fun e => hne (by rw [e]))).trans ((World.grownBy_alloc wr o none).block k (Nat.lt_of_lt_of_le hk hg.size) (by simp))).trans (hg.block k hk hne)⟩

set_option maxHeartbeats 8000000 in
set_option maxRecDepth 100000 in
theorem layGet_any (A : Option Addr) (c : Nat) (l : List Int) (w : World) (hr : RdI w .u8 A l) (hlc : l.length ≤ c) (hc9 : c ≤ 9223372036854775807) (hb : ∀ x ∈ l, 0 ≤ x ∧ x < 256) :
    Calls Try.prog 60 #[.slice A l.length c] w (GetRet (layG l) w) := by
  by_cases h0 : l.length = 0
  · have E := Lib.hid (show layG l = (zeroC, 14) by rw [List.length_eq_zero_iff.1 h0]; rfl)
    have d0 : ((l.length : Int) == 0) = true := by simpa using h0
    go_enter Try.func60, Try.ntmps60
    go_wp2
    exact ⟨rfl, getOut rfl rfl (heap_alloc_new w _) rfl E.out (bel1 _ _)⟩
  have hlt : 0 < l.length := by omega
  obtain ⟨d, l', rfl⟩ : ∃ d l', l = d :: l' := by
    cases l with
    | nil => simp at h0
    | cons d l' => exact ⟨d, l', rfl⟩
  have d0 : (((d :: l').length : Int) == 0) = false := by simp; omega
  obtain ⟨ad, rfl, hcd⟩ := (hr.below (bel1 w (.cells #[.int .i64 0, .int .i64 0, .int .i64 0, .int .i64 0, .int .i64 0, .int .i64 0, .int .i64 0, .int .i64 0, .int .i64 0, .int .i64 0, .int .i64 0, .int .i64 0, .int .i64 0, .int .i64 0, .int .i64 0] 28))).at_ hlt
  rw [add_zero] at hcd
  replace hcd : (w.alloc (.cells #[.int .i64 0, .int .i64 0, .int .i64 0, .int .i64 0, .int .i64 0, .int .i64 0, .int .i64 0, .int .i64 0, .int .i64 0, .int .i64 0, .int .i64 0, .int .i64 0, .int .i64 0, .int .i64 0, .int .i64 0] 28)).cell? ad = some (.int .u8 d) := hcd
  have hbd := hb d List.mem_cons_self
  obtain ⟨m, hm⟩ : ∃ m, (d :: l').length = m := ⟨_, rfl⟩
  have hlt2 : 0 < m := by omega
  by_cases h9 : 9 < d
  · have E := Lib.hid (show layG (d :: l') = (zeroC, 7) by rw [layG_cons, if_pos h9])
    rw [hm] at d0 ⊢
    go_enter Try.func60, Try.ntmps60
    go_wp2
    exact ⟨rfl, getOut rfl rfl (heap_alloc_new w _) rfl E.out (bel1 _ _)⟩
  have d9 : decide (9 < d) = false := by simpa using h9
  by_cases h8 : wsE d = 0
  rotate_left
  · have E := Lib.hid (show layG (d :: l') = (zeroC, wsE d) by rw [layG_cons, if_neg h9, if_pos h8]; unfold wsE at h8 ⊢; split at h8 <;> simp_all)
    have d8 : (wsE d != 0) = true := by simpa using h8
    rw [hm] at d0 ⊢
    clear h8
    go_enter Try.func60, Try.ntmps60
    go_wp2_with fail
    refine (layWidths_any d _).mono ?_
    rintro e w2 ⟨u, rfl, uo, hb2⟩
    obtain ⟨uA, uc, rfl, _, _⟩ := own_slice uo
    obtain ⟨hc2, hf2⟩ := bcell hb2
    have hz2 : w.heap.size < w2.heap.size := by have := hb2.size; simp at this; omega
    have hg2 := Lib.hid ((hb2.block w.heap.size (by simp)).trans (heap_alloc_new w _))
    have HB2 := Lib.hid (bT (bel1 w _) hb2)
    clear uo hb2
    go_wp2
    exact ⟨rfl, getOut (c := zeroC) rfl rfl (row_set (row_set (row_set (row_set (row_set (row_set (row_set (row_set (row_set (row_set (row_set (row_set (row_set (row_set (row_set hg2.out 0 _) 1 _) 2 _) 3 _) 4 _) 5 _) 6 _) 7 _) 8 _) 9 _) 10 _) 11 _) 12 _) 13 _) 14 _) rfl E.out (by have h := HB2.out; repeat (first | (with_reducible exact bR _) | (with_reducible refine bT ?_ (by assumption)) | (with_reducible apply bA) | (with_reducible apply bD) | (with_reducible apply bN) | (with_reducible refine bS ?_ (by first | omega | (simp; done) | (simp; omega)))))⟩
  by_cases h7 : (splitR (d :: l') (wsL d)).2 = 0
  rotate_left
  · have E := Lib.hid (show layG (d :: l') = (zeroC, (splitR (d :: l') (wsL d)).2) by rw [layG_cons, if_neg h9, if_neg (by simp [h8]), if_pos h7])
    have d7 : ((splitR (d :: l') (wsL d)).2 != 0) = true := by simpa using h7
    have hwl := wsL_le d
    obtain ⟨L, hL⟩ : ∃ L, d :: l' = L := ⟨_, rfl⟩
    rw [hL] at hr hlc hb E d7 hm d0 ⊢
    subst hm
    clear h7 hL
    go_enter Try.func60, Try.ntmps60
    go_wp2_with fail
    refine (layWidths_any d _).mono ?_
    rintro e w2 ⟨u, rfl, uo, hb2⟩
    obtain ⟨uA, uc, rfl, _, _⟩ := own_slice uo
    have ur := RdI.of_own uo
    have hr2 := (hr.below (bel1 w _)).below hb2
    have hg2 := (hb2.block w.heap.size (by simp)).trans (heap_alloc_new w _)
    have HB2 := Lib.hid (bT (bel1 w _) hb2)
    clear uo hb2
    go_wp2_with fail
    refine (bcdSplit_any (some ad) uA c uc L (wsL d) _ hr2 ur hlc hc9 (by omega) hb).mono ?_
    rintro e w3 ⟨z, rfl, zo, hb3⟩
    obtain ⟨zA, zc, rfl, _, _⟩ := own_slice zo
    obtain ⟨hc3, hf3⟩ := bcell hb3
    have hz3 : w.heap.size < w2.heap.size := (Array.getElem?_eq_some_iff.1 hg2).1
    have hz4 : w.heap.size < w3.heap.size := by have := hb3.size; omega
    have hg3 := Lib.hid ((hb3.block w.heap.size hz3).trans hg2)
    have hcz : ∀ o, o < 15 → w2.cell? ⟨w.heap.size, o, none⟩ = some (.int .i64 0) := by
      intro o ho
      rw [cell_of_row _ w.heap.size o _ _ _ hg2]
      have : o = 0 ∨ o = 1 ∨ o = 2 ∨ o = 3 ∨ o = 4 ∨ o = 5 ∨ o = 6 ∨ o = 7 ∨ o = 8 ∨ o = 9 ∨ o = 10 ∨ o = 11 ∨ o = 12 ∨ o = 13 ∨ o = 14 := by omega
      rcases this with rfl | rfl | rfl | rfl | rfl | rfl | rfl | rfl | rfl | rfl | rfl | rfl | rfl | rfl | rfl <;> rfl
    have hfz : ∀ o, w2.frozen? ⟨w.heap.size, o, none⟩ = false := by intro o; simp [World.frozen?, hg2]
    have HB3 := Lib.hid (bT HB2.out hb3)
    clear zo hb3 hg2
    go_wp2
    exact ⟨rfl, getOut (c := zeroC) rfl rfl (row_set (row_set (row_set (row_set (row_set (row_set (row_set (row_set (row_set (row_set (row_set (row_set (row_set (row_set (row_set hg3.out 0 _) 1 _) 2 _) 3 _) 4 _) 5 _) 6 _) 7 _) 8 _) 9 _) 10 _) 11 _) 12 _) 13 _) 14 _) rfl E.out (by have h := HB3.out; repeat (first | (with_reducible exact bR _) | (with_reducible refine bT ?_ (by assumption)) | (with_reducible apply bA) | (with_reducible apply bD) | (with_reducible apply bN) | (with_reducible refine bS ?_ (by first | omega | (simp; done) | (simp; omega)))))⟩
  have hk := wsE_kind h8
  have hwl := wsL_le d
  obtain ⟨L, hL⟩ : ∃ L, d :: l' = L := ⟨_, rfl⟩
  rw [hL] at hr hlc hb hm d0 h7 ⊢
  have HLL := Lib.hid hL
  subst hm
  clear hL
  have hd0 : 0 ≤ d := by omega
  have hd4 : d ≤ 4 := by omega
  go_enter Try.func60, Try.ntmps60
  go_wp2_with fail
  refine (layWidths_any d _).mono ?_
  rintro e w2 ⟨u, rfl, uo, hb2⟩
  obtain ⟨uA, uc, rfl, _, _⟩ := own_slice uo
  have ur := RdI.of_own uo
  have hr2 := (hr.below (bel1 w _)).below hb2
  have hg2 := (hb2.block w.heap.size (by simp)).trans (heap_alloc_new w _)
  have HB2 := Lib.hid (bT (bel1 w _) hb2)
  clear uo hb2
  go_wp2_with fail
  refine (bcdSplit_any (some ad) uA c uc L (wsL d) _ hr2 ur hlc hc9 (by omega) hb).mono ?_
  rintro e w3 ⟨z, rfl, zo, hb3⟩
  obtain ⟨zA, zc, rfl, _, _⟩ := own_slice zo
  have zr := RdI.of_own zo
  have hz3 : w.heap.size < w2.heap.size := (Array.getElem?_eq_some_iff.1 hg2).1
  have hg3 := Lib.hid ((hb3.block w.heap.size hz3).trans hg2)
  have HB3 := Lib.hid (bT HB2.out hb3)
  clear zo hb3 hg2 hr2 ur
  go_wp2_with fail
  refine (blank_any d _ hd0 hd4).mono ?_
  rintro e w4 ⟨rfl, rfl⟩
  go_wp2_with fail
  refine (fields_any w3.heap.size d _ ?_).mono ?_
  · rw [cell_of_row _ w3.heap.size 1 _ _ (0, 0) (heap_alloc_new w3 _)]; rfl
  rintro e w5 ⟨v, rfl, ho, hb5⟩
  have hg5 := (hb5.block w.heap.size (by rw [World.size_alloc]; have := (Array.getElem?_eq_some_iff.1 hg3.out).1; omega)).trans ((Below.heap_alloc w3 _ _ (Array.getElem?_eq_some_iff.1 hg3.out).1).trans hg3.out)
  have hrow0 : w5.heap[w3.heap.size]? = some (.cells ((blankC d).map (Value.int .i64)).toArray 116 (0, 0)) := (hb5.block w3.heap.size (by simp)).trans (heap_alloc_new w3 _)
  have hbg : w3.heap.size < w5.heap.size := (Array.getElem?_eq_some_iff.1 hrow0).1
  have hge := own_ge ho
  obtain ⟨g, cap, rfl, hgl, hgb⟩ : ∃ g cap, v = .slice (some ⟨g, 0, none⟩) (fl d).length cap ∧ g < w5.heap.size ∧ w3.heap.size < g := by
    have hp := fl_pos d
    rcases ho.2 with ⟨_, h0⟩ | ⟨g, cap, cur, rfl, hg, hh, _⟩
    · omega
    · exact ⟨g, cap, rfl, (Array.getElem?_eq_some_iff.1 hh).1, by simp at hg; omega⟩
  have hcells : ∀ j, j < (fl d).length → w5.cell? ⟨g, j * 2, none⟩ = some (.pointer (some ⟨w3.heap.size, ((fl d).getD j (0, 0)).1, none⟩)) ∧ w5.cell? ⟨g, j * 2 + 1, none⟩ = some (.int .i64 ((fl d).getD j (0, 0)).2) := by
    intro j hj
    obtain ⟨e1, e2⟩ := fl_cells w3.heap.size (fl d) j hj
    exact ⟨(ho.cellAt (j * 2) (by omega)).trans e1, (ho.cellAt (j * 2 + 1) (by omega)).trans e2⟩
  have hoff : ∀ j, j < (fl d).length → ((fl d).getD j (0, 0)).1 < 15 := by
    intro j hj
    have e : (fl d).getD j (0, 0) = (fl d)[j] := by simp [hj]
    rw [e]; exact fl_off d _ (List.getElem_mem hj)
  have hvl := splitR_vlen h7
  have hfw : (fl d).length = (wsL d).length := by rw [← fl_ws (show ¬ d < 1 by omega) (show ¬ 4 < d by omega), List.length_map]
  obtain ⟨V, hV⟩ : ∃ V, (splitR L (wsL d)).1 = V := ⟨_, rfl⟩
  have zr5 := zr.below (show Below w3.heap.size w3 w5 from bT (bel1 w3 _) hb5)
  have HB5 := Lib.hid (bT HB3.out (bT (bel1 w3 _) hb5))
  have hb35 : Below w3.heap.size w3 w5 := bT (bel1 w3 _) hb5
  rw [hV] at zr zr5 hvl ⊢
  have HV := Lib.hid hV
  obtain ⟨F, hF⟩ : ∃ F, fl d = F := ⟨_, rfl⟩
  rw [hF] at hcells hoff hfw ⊢
  have HF := Lib.hid hF
  have HL13 := Lib.hid (show F.length ≤ 13 by rw [← hF]; exact fl_le d)
  clear ho hb5 hV hF hge zr5
  go_wp2
  go_loopw [50] (fun i wr => ∃ j : Nat, j ≤ F.length ∧ i = .int .i64 j ∧ wr.heap[w3.heap.size]? = some (.cells ((putAt F V (blankC d) j).map (Value.int .i64)).toArray 116 (0, 0)) ∧ w5.grownBy wr (some w3.heap.size)) (fun i _ => F.length - (intOf i).toNat)
  case atStart => exact ⟨0, Nat.zero_le _, rfl, hrow0, ⟨rfl, rfl, rfl, Nat.le_refl _, fun _ _ _ => rfl⟩⟩
  case round =>
    obtain ⟨j, hj, rfl, hrow, hgr⟩ := hrel
    by_cases hlt : j < F.length
    · obtain ⟨c1, c2⟩ := hcells j hlt
      have ho15 := hoff j hlt
      obtain ⟨⟨o, x⟩, hq⟩ : ∃ q, F.getD j (0, 0) = q := ⟨_, rfl⟩
      rw [hq] at c1 c2 ho15
      have gne : some g ≠ some w3.heap.size := by simp; omega
      have c1' : wr.cell? ⟨g, j * 2, none⟩ = _ := (World.cell?_of_block (hgr.block g hgl gne)).trans c1
      have c2' : wr.cell? ⟨g, j * 2 + 1, none⟩ = _ := (World.cell?_of_block (hgr.block g hgl gne)).trans c2
      have hj13 : j < 13 := by have := HL13.out; omega
      have hb3r : Below w3.heap.size w3 wr := hb35.grown hgr hb35.size (fun k e => by cases e; exact Nat.le_refl _)
      have hjV : j < V.length := by rw [hvl, ← hfw]; exact hlt
      obtain ⟨vd, hvd, hcV⟩ := (zr.below hb3r).at_ hjV
      have hrz : w3.heap.size < wr.heap.size := (Array.getElem?_eq_some_iff.1 hrow).1
      subst hvd
      go_wp2
      obtain ⟨w6, hw6⟩ : ∃ w6, wr.alloc (.cells #[.pointer (some ⟨w3.heap.size, o, none⟩), .int .i64 x] 115) = w6 := ⟨_, rfl⟩
      have hb36 : Below w3.heap.size w3 w6 := by rw [← hw6]; exact bT hb3r (bel1 wr _)
      have hB6 : w6.cell? ⟨wr.heap.size, 0, none⟩ = some (.pointer (some ⟨w3.heap.size, o, none⟩)) := by rw [← hw6, cell_of_row _ wr.heap.size 0 _ _ (0, 0) (heap_alloc_new wr _)]; rfl
      have hV6 := RdI.at1 (zr.below hb36) hjV rfl
      have hS6 := (Below.heap_alloc wr (.cells #[.pointer (some ⟨w3.heap.size, o, none⟩), .int .i64 x] 115) _ hrz).trans hrow
      rw [hw6] at hS6
      have hcS : w6.cell? ⟨w3.heap.size, o, none⟩ = some (.int .i64 ((putAt F V (blankC d) j).getD o 0)) := by
        have hl15 : o < (putAt F V (blankC d) j).length := by rw [putAt_len]; exact ho15
        rw [cell_of_row _ w3.heap.size o _ _ _ hS6]; simp [hl15]
      have hfS : w6.frozen? ⟨w3.heap.size, o, none⟩ = false := by simp [World.frozen?, hS6]
      rw [hw6]
      go_still_tail 7, (by kernel_rfl)
      go_wp2
      have HP := Lib.hid (show putAt F V (blankC d) (j + 1) = (putAt F V (blankC d) j).set o (V.getD j 0) by rw [putAt, hq])
      go_roundw
      case rel =>
        refine ⟨j + 1, by omega, by go_num, ?_, ?_⟩
        · have h := row_set hS6 o (.int .i64 V[j])
          rw [HP.out]
          refine h.trans ?_
          simp [List.getD_eq_getElem?_getD, hjV]
        · subst hw6; exact gb_step hgr
      case measure => simp only [intOf]; omega
    · go_wp2
      have hb3r : Below w3.heap.size w3 wr := hb35.grown hgr hb35.size (fun k e => by cases e; exact Nat.le_refl _)
      have hCE : putAt F V (blankC d) j = cellsOf d V := by rw [show j = F.length by omega, ← HF.out]; exact put_cells (by omega) (by omega) V
      have hE0 : layG L = if okC (cellsOf d V) = true then (cellsOf d V, 0) else (zeroC, 9) := by
        rw [← HLL.out, layG_cons, HLL.out, if_neg (by omega), if_neg (by simp [h8]), if_neg (by simp [h7]), HV.out]
      obtain ⟨c0, c1, c2, c3, c4, c5, c6, c7, c8, c9, c10, c11, c12, c13, c14, hC⟩ := cellsOf_15 d V
      rw [hC] at hE0 hCE
      rw [hCE] at hrow
      have hgO := (hb3r.block w.heap.size (Array.getElem?_eq_some_iff.1 hg3.out).1).trans hg3.out
      have HBr := Lib.hid (bT HB3.out hb3r)
      have hzr : w.heap.size < wr.heap.size := (Array.getElem?_eq_some_iff.1 hgO).1
      have hbr : w3.heap.size < wr.heap.size := (Array.getElem?_eq_some_iff.1 hrow).1
      have hne : w.heap.size ≠ w3.heap.size := by have := (Array.getElem?_eq_some_iff.1 hg3.out).1; omega
      have HX := Lib.hid hE0
      have HROW := Lib.hid hrow
      clear hC hCE hE0 hgr hb35 hb3r hcells hoff hvl hfw HV HF HLL HB3 HB2 hg3 hrow0 hcd hr zr hb HL13 hg5 HB5 hbg hgl hgb h7 h8 h9 hd0 hd4 hk hrow
      generalize w3.heap.size = b at *
      have hS : wr.heap[b]? = some (.cells #[.int .i64 c0, .int .i64 c1, .int .i64 c2, .int .i64 c3, .int .i64 c4, .int .i64 c5, .int .i64 c6, .int .i64 c7, .int .i64 c8, .int .i64 c9, .int .i64 c10, .int .i64 c11, .int .i64 c12, .int .i64 c13, .int .i64 c14] 116 (0, 0)) := HROW.out
      have hq0 : b < wr.heap.size ∧ wr.cell? ⟨b, 0, none⟩ = some (.int .i64 c0) ∧ wr.cell? ⟨b, 1, none⟩ = some (.int .i64 c1) ∧ wr.cell? ⟨b, 2, none⟩ = some (.int .i64 c2) ∧ wr.cell? ⟨b, 3, none⟩ = some (.int .i64 c3) ∧ wr.cell? ⟨b, 4, none⟩ = some (.int .i64 c4) ∧ wr.cell? ⟨b, 5, none⟩ = some (.int .i64 c5) ∧ wr.cell? ⟨b, 6, none⟩ = some (.int .i64 c6) ∧ wr.cell? ⟨b, 7, none⟩ = some (.int .i64 c7) ∧ wr.cell? ⟨b, 8, none⟩ = some (.int .i64 c8) ∧ wr.cell? ⟨b, 9, none⟩ = some (.int .i64 c9) ∧ wr.cell? ⟨b, 10, none⟩ = some (.int .i64 c10) ∧ wr.cell? ⟨b, 11, none⟩ = some (.int .i64 c11) ∧ wr.cell? ⟨b, 12, none⟩ = some (.int .i64 c12) ∧ wr.cell? ⟨b, 13, none⟩ = some (.int .i64 c13) ∧ wr.cell? ⟨b, 14, none⟩ = some (.int .i64 c14) := ⟨hbr, (cell_of_row _ b 0 _ _ _ hS).trans rfl, (cell_of_row _ b 1 _ _ _ hS).trans rfl, (cell_of_row _ b 2 _ _ _ hS).trans rfl, (cell_of_row _ b 3 _ _ _ hS).trans rfl, (cell_of_row _ b 4 _ _ _ hS).trans rfl, (cell_of_row _ b 5 _ _ _ hS).trans rfl, (cell_of_row _ b 6 _ _ _ hS).trans rfl, (cell_of_row _ b 7 _ _ _ hS).trans rfl, (cell_of_row _ b 8 _ _ _ hS).trans rfl, (cell_of_row _ b 9 _ _ _ hS).trans rfl, (cell_of_row _ b 10 _ _ _ hS).trans rfl, (cell_of_row _ b 11 _ _ _ hS).trans rfl, (cell_of_row _ b 12 _ _ _ hS).trans rfl, (cell_of_row _ b 13 _ _ _ hS).trans rfl, (cell_of_row _ b 14 _ _ _ hS).trans rfl⟩
      cases hT : tkB c0 c1 c2 c3 c4 c5 c6 c7 c8 c9 c10 with
      | false =>
        have E := Lib.hid (show layG L = (zeroC, 9) by rw [HX.out]; simp [okC, hT])
        refine wp_region_held_drew (S := fun w9 => (b < w9.heap.size ∧ w9.cell? ⟨b, 0, none⟩ = some (.int .i64 c0) ∧ w9.cell? ⟨b, 1, none⟩ = some (.int .i64 c1) ∧ w9.cell? ⟨b, 2, none⟩ = some (.int .i64 c2) ∧ w9.cell? ⟨b, 3, none⟩ = some (.int .i64 c3) ∧ w9.cell? ⟨b, 4, none⟩ = some (.int .i64 c4) ∧ w9.cell? ⟨b, 5, none⟩ = some (.int .i64 c5) ∧ w9.cell? ⟨b, 6, none⟩ = some (.int .i64 c6) ∧ w9.cell? ⟨b, 7, none⟩ = some (.int .i64 c7) ∧ w9.cell? ⟨b, 8, none⟩ = some (.int .i64 c8) ∧ w9.cell? ⟨b, 9, none⟩ = some (.int .i64 c9) ∧ w9.cell? ⟨b, 10, none⟩ = some (.int .i64 c10) ∧ w9.cell? ⟨b, 11, none⟩ = some (.int .i64 c11) ∧ w9.cell? ⟨b, 12, none⟩ = some (.int .i64 c12) ∧ w9.cell? ⟨b, 13, none⟩ = some (.int .i64 c13) ∧ w9.cell? ⟨b, 14, none⟩ = some (.int .i64 c14)) ∧ Below wr.heap.size wr w9) (by kernel_rfl) ⟨hq0, (Below.refl _ _).drew⟩ (fun hHeld => ?_)
        refine wpAnyH_take (i := 0) (oi := ?_) (v := ?_) ?hiu1 (by as_aux_lemma => kernel_rfl) (by as_aux_lemma => kernel_rfl) (by as_aux_lemma => kernel_rfl) ?hQu1 (Or.inl ⟨?hwu1, ?hyu1⟩) hHeld ?restu1
        case hiu1 => simp only [List.getElem?_toArray, List.getElem?_cons_zero, List.getElem?_cons_succ]; rfl
        case hwu1 => rfl
        case hyu1 => (intro w9 hSw; (try dsimp only at hSw); go_simp; (try with_reducible rfl))
        case hQu1 => exact fun _ _ _ h => h
        (try simp only [Act.put, List.setIfInBounds_toArray, List.set_cons_zero, List.set_cons_succ])
        refine wpAnyH_take (i := 1) (oi := ?_) (v := ?_) ?hiu2 (by as_aux_lemma => kernel_rfl) (by as_aux_lemma => kernel_rfl) (by as_aux_lemma => kernel_rfl) ?hQu2 (Or.inl ⟨?hwu2, ?hyu2⟩) hHeld ?restu2
        case hiu2 => simp only [List.getElem?_toArray, List.getElem?_cons_zero, List.getElem?_cons_succ]; rfl
        case hwu2 => rfl
        case hyu2 => (intro w9 hSw; (try dsimp only at hSw); go_simp; (try with_reducible rfl))
        case hQu2 => exact fun _ _ _ h => h
        (try simp only [Act.put, List.setIfInBounds_toArray, List.set_cons_zero, List.set_cons_succ])
        refine wpAnyH_take (i := 2) (oi := ?_) (v := ?_) ?hiu3 (by as_aux_lemma => kernel_rfl) (by as_aux_lemma => kernel_rfl) (by as_aux_lemma => kernel_rfl) ?hQu3 (Or.inl ⟨?hwu3, ?hyu3⟩) hHeld ?restu3
        case hiu3 => simp only [List.getElem?_toArray, List.getElem?_cons_zero, List.getElem?_cons_succ]; rfl
        case hwu3 => rfl
        case hyu3 => (intro w9 hSw; (try dsimp only at hSw); go_simp; (try with_reducible rfl))
        case hQu3 => exact fun _ _ _ h => h
        (try simp only [Act.put, List.setIfInBounds_toArray, List.set_cons_zero, List.set_cons_succ])
        refine wpAnyH_take (i := 3) (oi := ?_) (v := ?_) ?hiu4 (by as_aux_lemma => kernel_rfl) (by as_aux_lemma => kernel_rfl) (by as_aux_lemma => kernel_rfl) ?hQu4 (Or.inl ⟨?hwu4, ?hyu4⟩) hHeld ?restu4
        case hiu4 => simp only [List.getElem?_toArray, List.getElem?_cons_zero, List.getElem?_cons_succ]; rfl
        case hwu4 => rfl
        case hyu4 => (intro w9 hSw; (try dsimp only at hSw); go_simp; (try with_reducible rfl))
        case hQu4 => exact fun _ _ _ h => h
        (try simp only [Act.put, List.setIfInBounds_toArray, List.set_cons_zero, List.set_cons_succ])
        refine wpAnyH_take (i := 4) (oi := ?_) (v := ?_) ?hiu5 (by as_aux_lemma => kernel_rfl) (by as_aux_lemma => kernel_rfl) (by as_aux_lemma => kernel_rfl) ?hQu5 (Or.inl ⟨?hwu5, ?hyu5⟩) hHeld ?restu5
        case hiu5 => simp only [List.getElem?_toArray, List.getElem?_cons_zero, List.getElem?_cons_succ]; rfl
        case hwu5 => rfl
        case hyu5 => (intro w9 hSw; (try dsimp only at hSw); go_simp; (try with_reducible rfl))
        case hQu5 => exact fun _ _ _ h => h
        (try simp only [Act.put, List.setIfInBounds_toArray, List.set_cons_zero, List.set_cons_succ])
        refine wpAnyH_ready (rs := [5]) (by as_aux_lemma => kernel_rfl) (by simp) (AllReadyH.cons (o := ?_) ?hiu6 (fun K hK => ?_) AllReadyH.nil)
        case hiu6 => simp only [List.getElem?_toArray, List.getElem?_cons_zero, List.getElem?_cons_succ]; rfl
        go_wp2_with (go_at_call 72; (with_reducible refine (tk_any c0 c1 c2 c3 c4 c5 c6 c7 c8 c9 c10 _).mono ?_); rintro e w8 ⟨he, hb8⟩; rw [hT] at he; subst he)
        refine hK.out _ _ ?_ (fun hHeld => ?_)
        · exact sh2_below (by assumption) hb8
        clear hK K
        (try simp only [Act.put, List.setIfInBounds_toArray, List.set_cons_zero, List.set_cons_succ])
        refine wpAnyH_take (i := 6) (oi := ?_) (v := ?_) ?hiu7 (by as_aux_lemma => kernel_rfl) (by as_aux_lemma => kernel_rfl) (by as_aux_lemma => kernel_rfl) ?hQu7 (Or.inl ⟨?hwu7, ?hyu7⟩) hHeld ?restu7
        case hiu7 => simp only [List.getElem?_toArray, List.getElem?_cons_zero, List.getElem?_cons_succ]; rfl
        case hwu7 => rfl
        case hyu7 => (intro w9 hSw; (try dsimp only at hSw); go_simp; (try with_reducible rfl))
        case hQu7 => exact fun _ _ _ h => h
        (try simp only [Act.put, List.setIfInBounds_toArray, List.set_cons_zero, List.set_cons_succ])
        refine wpAnyH_take (i := 7) (oi := ?_) (v := ?_) ?hiu8 (by as_aux_lemma => kernel_rfl) (by as_aux_lemma => kernel_rfl) (by as_aux_lemma => kernel_rfl) ?hQu8 (Or.inl ⟨?hwu8, ?hyu8⟩) hHeld ?restu8
        case hiu8 => simp only [List.getElem?_toArray, List.getElem?_cons_zero, List.getElem?_cons_succ]; rfl
        case hwu8 => rfl
        case hyu8 => (intro w9 hSw; (try dsimp only at hSw); go_simp; (try with_reducible rfl))
        case hQu8 => exact fun _ _ _ h => h
        (try simp only [Act.put, List.setIfInBounds_toArray, List.set_cons_zero, List.set_cons_succ])
        refine wpAnyH_take (i := 8) (oi := ?_) (v := undef) ?hiu9 (by as_aux_lemma => kernel_rfl) (by as_aux_lemma => kernel_rfl) (by as_aux_lemma => kernel_rfl) ?hQu9 (Or.inr ⟨?hwu9, rfl⟩) hHeld ?restu9
        case hiu9 => simp only [List.getElem?_toArray, List.getElem?_cons_zero, List.getElem?_cons_succ]; rfl
        case hwu9 => rfl
        case hQu9 => exact fun _ _ _ h => h
        (try simp only [Act.put, List.setIfInBounds_toArray, List.set_cons_zero, List.set_cons_succ])
        refine wpAnyH_take (i := 9) (oi := ?_) (v := undef) ?hiu10 (by as_aux_lemma => kernel_rfl) (by as_aux_lemma => kernel_rfl) (by as_aux_lemma => kernel_rfl) ?hQu10 (Or.inr ⟨?hwu10, rfl⟩) hHeld ?restu10
        case hiu10 => simp only [List.getElem?_toArray, List.getElem?_cons_zero, List.getElem?_cons_succ]; rfl
        case hwu10 => rfl
        case hQu10 => exact fun _ _ _ h => h
        (try simp only [Act.put, List.setIfInBounds_toArray, List.set_cons_zero, List.set_cons_succ])
        refine wpAnyH_take (i := 10) (oi := ?_) (v := undef) ?hiu11 (by as_aux_lemma => kernel_rfl) (by as_aux_lemma => kernel_rfl) (by as_aux_lemma => kernel_rfl) ?hQu11 (Or.inr ⟨?hwu11, rfl⟩) hHeld ?restu11
        case hiu11 => simp only [List.getElem?_toArray, List.getElem?_cons_zero, List.getElem?_cons_succ]; rfl
        case hwu11 => rfl
        case hQu11 => exact fun _ _ _ h => h
        (try simp only [Act.put, List.setIfInBounds_toArray, List.set_cons_zero, List.set_cons_succ])
        refine wpAnyH_take (i := 11) (oi := ?_) (v := undef) ?hiu12 (by as_aux_lemma => kernel_rfl) (by as_aux_lemma => kernel_rfl) (by as_aux_lemma => kernel_rfl) ?hQu12 (Or.inr ⟨?hwu12, rfl⟩) hHeld ?restu12
        case hiu12 => simp only [List.getElem?_toArray, List.getElem?_cons_zero, List.getElem?_cons_succ]; rfl
        case hwu12 => rfl
        case hQu12 => exact fun _ _ _ h => h
        (try simp only [Act.put, List.setIfInBounds_toArray, List.set_cons_zero, List.set_cons_succ])
        refine wpAnyH_take (i := 12) (oi := ?_) (v := undef) ?hiu13 (by as_aux_lemma => kernel_rfl) (by as_aux_lemma => kernel_rfl) (by as_aux_lemma => kernel_rfl) ?hQu13 (Or.inr ⟨?hwu13, rfl⟩) hHeld ?restu13
        case hiu13 => simp only [List.getElem?_toArray, List.getElem?_cons_zero, List.getElem?_cons_succ]; rfl
        case hwu13 => rfl
        case hQu13 => exact fun _ _ _ h => h
        (try simp only [Act.put, List.setIfInBounds_toArray, List.set_cons_zero, List.set_cons_succ])
        refine wpAnyH_take (i := 13) (oi := ?_) (v := undef) ?hiu14 (by as_aux_lemma => kernel_rfl) (by as_aux_lemma => kernel_rfl) (by as_aux_lemma => kernel_rfl) ?hQu14 (Or.inr ⟨?hwu14, rfl⟩) hHeld ?restu14
        case hiu14 => simp only [List.getElem?_toArray, List.getElem?_cons_zero, List.getElem?_cons_succ]; rfl
        case hwu14 => rfl
        case hQu14 => exact fun _ _ _ h => h
        (try simp only [Act.put, List.setIfInBounds_toArray, List.set_cons_zero, List.set_cons_succ])
        refine wpAnyH_take (i := 14) (oi := ?_) (v := undef) ?hiu15 (by as_aux_lemma => kernel_rfl) (by as_aux_lemma => kernel_rfl) (by as_aux_lemma => kernel_rfl) ?hQu15 (Or.inr ⟨?hwu15, rfl⟩) hHeld ?restu15
        case hiu15 => simp only [List.getElem?_toArray, List.getElem?_cons_zero, List.getElem?_cons_succ]; rfl
        case hwu15 => rfl
        case hQu15 => exact fun _ _ _ h => h
        (try simp only [Act.put, List.setIfInBounds_toArray, List.set_cons_zero, List.set_cons_succ])
        refine wpAnyH_take (i := 15) (oi := ?_) (v := undef) ?hiu16 (by as_aux_lemma => kernel_rfl) (by as_aux_lemma => kernel_rfl) (by as_aux_lemma => kernel_rfl) ?hQu16 (Or.inr ⟨?hwu16, rfl⟩) hHeld ?restu16
        case hiu16 => simp only [List.getElem?_toArray, List.getElem?_cons_zero, List.getElem?_cons_succ]; rfl
        case hwu16 => rfl
        case hQu16 => exact fun _ _ _ h => h
        (try simp only [Act.put, List.setIfInBounds_toArray, List.set_cons_zero, List.set_cons_succ])
        refine wpAnyH_take (i := 16) (oi := ?_) (v := undef) ?hiu17 (by as_aux_lemma => kernel_rfl) (by as_aux_lemma => kernel_rfl) (by as_aux_lemma => kernel_rfl) ?hQu17 (Or.inr ⟨?hwu17, rfl⟩) hHeld ?restu17
        case hiu17 => simp only [List.getElem?_toArray, List.getElem?_cons_zero, List.getElem?_cons_succ]; rfl
        case hwu17 => rfl
        case hQu17 => exact fun _ _ _ h => h
        (try simp only [Act.put, List.setIfInBounds_toArray, List.set_cons_zero, List.set_cons_succ])
        refine wpAnyH_take (i := 17) (oi := ?_) (v := undef) ?hiu18 (by as_aux_lemma => kernel_rfl) (by as_aux_lemma => kernel_rfl) (by as_aux_lemma => kernel_rfl) ?hQu18 (Or.inr ⟨?hwu18, rfl⟩) hHeld ?restu18
        case hiu18 => simp only [List.getElem?_toArray, List.getElem?_cons_zero, List.getElem?_cons_succ]; rfl
        case hwu18 => rfl
        case hQu18 => exact fun _ _ _ h => h
        (try simp only [Act.put, List.setIfInBounds_toArray, List.set_cons_zero, List.set_cons_succ])
        refine wpAnyH_take (i := 18) (oi := ?_) (v := undef) ?hiu19 (by as_aux_lemma => kernel_rfl) (by as_aux_lemma => kernel_rfl) (by as_aux_lemma => kernel_rfl) ?hQu19 (Or.inr ⟨?hwu19, rfl⟩) hHeld ?restu19
        case hiu19 => simp only [List.getElem?_toArray, List.getElem?_cons_zero, List.getElem?_cons_succ]; rfl
        case hwu19 => rfl
        case hQu19 => exact fun _ _ _ h => h
        (try simp only [Act.put, List.setIfInBounds_toArray, List.set_cons_zero, List.set_cons_succ])
        refine wpAnyH_take (i := 19) (oi := ?_) (v := undef) ?hiu20 (by as_aux_lemma => kernel_rfl) (by as_aux_lemma => kernel_rfl) (by as_aux_lemma => kernel_rfl) ?hQu20 (Or.inr ⟨?hwu20, rfl⟩) hHeld ?restu20
        case hiu20 => simp only [List.getElem?_toArray, List.getElem?_cons_zero, List.getElem?_cons_succ]; rfl
        case hwu20 => rfl
        case hQu20 => exact fun _ _ _ h => h
        (try simp only [Act.put, List.setIfInBounds_toArray, List.set_cons_zero, List.set_cons_succ])
        refine wpAnyH_take (i := 20) (oi := ?_) (v := ?_) ?hiu21 (by as_aux_lemma => kernel_rfl) (by as_aux_lemma => kernel_rfl) (by as_aux_lemma => kernel_rfl) ?hQu21 (Or.inl ⟨?hwu21, ?hyu21⟩) hHeld ?restu21
        case hiu21 => simp only [List.getElem?_toArray, List.getElem?_cons_zero, List.getElem?_cons_succ]; rfl
        case hwu21 => rfl
        case hyu21 => (intro w9 hSw; (try dsimp only at hSw); go_simp; (try with_reducible rfl))
        case hQu21 => exact fun _ _ _ h => h
        (try simp only [Act.put, List.setIfInBounds_toArray, List.set_cons_zero, List.set_cons_succ])
        refine wpAnyH_done (by kernel_rfl) ?_ _
        have hgZ := (hHeld.2.block w.heap.size hzr).trans hgO
        have hzZ : w.heap.size < w8.heap.size := Nat.lt_of_lt_of_le hzr hHeld.2.size
        have HBZ := Lib.hid (bT HBr.out hHeld.2)
        have hcz : ∀ o, o < 15 → w8.cell? ⟨w.heap.size, o, none⟩ = some (.int .i64 0) := by
          intro o ho
          rw [cell_of_row _ w.heap.size o _ _ _ hgZ]
          have : o = 0 ∨ o = 1 ∨ o = 2 ∨ o = 3 ∨ o = 4 ∨ o = 5 ∨ o = 6 ∨ o = 7 ∨ o = 8 ∨ o = 9 ∨ o = 10 ∨ o = 11 ∨ o = 12 ∨ o = 13 ∨ o = 14 := by omega
          rcases this with rfl | rfl | rfl | rfl | rfl | rfl | rfl | rfl | rfl | rfl | rfl | rfl | rfl | rfl | rfl <;> rfl
        have hfz : ∀ o, w8.frozen? ⟨w.heap.size, o, none⟩ = false := by intro o; simp [World.frozen?, hgZ]
        have HGZ := Lib.hid hgZ
        have hHc := hHeld.1
        clear hHeld hgZ
        go_wp2
        exact ⟨rfl, getOut (c := zeroC) rfl rfl (row_set (row_set (row_set (row_set (row_set (row_set (row_set (row_set (row_set (row_set (row_set (row_set (row_set (row_set (row_set HGZ.out 0 _) 1 _) 2 _) 3 _) 4 _) 5 _) 6 _) 7 _) 8 _) 9 _) 10 _) 11 _) 12 _) 13 _) 14 _) rfl E.out (by have h := HBZ.out; repeat (first | (with_reducible exact bR _) | (with_reducible refine bT ?_ (by assumption)) | (with_reducible apply bA) | (with_reducible apply bD) | (with_reducible apply bN) | (with_reducible refine bS ?_ (by first | omega | (simp; done) | (simp; omega)))))⟩
      | true =>
      cases hU : suB c9 c12 c13 with
      | false =>
        have E := Lib.hid (show layG L = (zeroC, 9) by rw [HX.out]; simp [okC, hT, hU])
        refine wp_region_held_drew (S := fun w9 => (b < w9.heap.size ∧ w9.cell? ⟨b, 0, none⟩ = some (.int .i64 c0) ∧ w9.cell? ⟨b, 1, none⟩ = some (.int .i64 c1) ∧ w9.cell? ⟨b, 2, none⟩ = some (.int .i64 c2) ∧ w9.cell? ⟨b, 3, none⟩ = some (.int .i64 c3) ∧ w9.cell? ⟨b, 4, none⟩ = some (.int .i64 c4) ∧ w9.cell? ⟨b, 5, none⟩ = some (.int .i64 c5) ∧ w9.cell? ⟨b, 6, none⟩ = some (.int .i64 c6) ∧ w9.cell? ⟨b, 7, none⟩ = some (.int .i64 c7) ∧ w9.cell? ⟨b, 8, none⟩ = some (.int .i64 c8) ∧ w9.cell? ⟨b, 9, none⟩ = some (.int .i64 c9) ∧ w9.cell? ⟨b, 10, none⟩ = some (.int .i64 c10) ∧ w9.cell? ⟨b, 11, none⟩ = some (.int .i64 c11) ∧ w9.cell? ⟨b, 12, none⟩ = some (.int .i64 c12) ∧ w9.cell? ⟨b, 13, none⟩ = some (.int .i64 c13) ∧ w9.cell? ⟨b, 14, none⟩ = some (.int .i64 c14)) ∧ Below wr.heap.size wr w9) (by kernel_rfl) ⟨hq0, (Below.refl _ _).drew⟩ (fun hHeld => ?_)
        refine wpAnyH_take (i := 0) (oi := ?_) (v := ?_) ?hiu22 (by as_aux_lemma => kernel_rfl) (by as_aux_lemma => kernel_rfl) (by as_aux_lemma => kernel_rfl) ?hQu22 (Or.inl ⟨?hwu22, ?hyu22⟩) hHeld ?restu22
        case hiu22 => simp only [List.getElem?_toArray, List.getElem?_cons_zero, List.getElem?_cons_succ]; rfl
        case hwu22 => rfl
        case hyu22 => (intro w9 hSw; (try dsimp only at hSw); go_simp; (try with_reducible rfl))
        case hQu22 => exact fun _ _ _ h => h
        (try simp only [Act.put, List.setIfInBounds_toArray, List.set_cons_zero, List.set_cons_succ])
        refine wpAnyH_take (i := 1) (oi := ?_) (v := ?_) ?hiu23 (by as_aux_lemma => kernel_rfl) (by as_aux_lemma => kernel_rfl) (by as_aux_lemma => kernel_rfl) ?hQu23 (Or.inl ⟨?hwu23, ?hyu23⟩) hHeld ?restu23
        case hiu23 => simp only [List.getElem?_toArray, List.getElem?_cons_zero, List.getElem?_cons_succ]; rfl
        case hwu23 => rfl
        case hyu23 => (intro w9 hSw; (try dsimp only at hSw); go_simp; (try with_reducible rfl))
        case hQu23 => exact fun _ _ _ h => h
        (try simp only [Act.put, List.setIfInBounds_toArray, List.set_cons_zero, List.set_cons_succ])
        refine wpAnyH_take (i := 2) (oi := ?_) (v := ?_) ?hiu24 (by as_aux_lemma => kernel_rfl) (by as_aux_lemma => kernel_rfl) (by as_aux_lemma => kernel_rfl) ?hQu24 (Or.inl ⟨?hwu24, ?hyu24⟩) hHeld ?restu24
        case hiu24 => simp only [List.getElem?_toArray, List.getElem?_cons_zero, List.getElem?_cons_succ]; rfl
        case hwu24 => rfl
        case hyu24 => (intro w9 hSw; (try dsimp only at hSw); go_simp; (try with_reducible rfl))
        case hQu24 => exact fun _ _ _ h => h
        (try simp only [Act.put, List.setIfInBounds_toArray, List.set_cons_zero, List.set_cons_succ])
        refine wpAnyH_take (i := 3) (oi := ?_) (v := ?_) ?hiu25 (by as_aux_lemma => kernel_rfl) (by as_aux_lemma => kernel_rfl) (by as_aux_lemma => kernel_rfl) ?hQu25 (Or.inl ⟨?hwu25, ?hyu25⟩) hHeld ?restu25
        case hiu25 => simp only [List.getElem?_toArray, List.getElem?_cons_zero, List.getElem?_cons_succ]; rfl
        case hwu25 => rfl
        case hyu25 => (intro w9 hSw; (try dsimp only at hSw); go_simp; (try with_reducible rfl))
        case hQu25 => exact fun _ _ _ h => h
        (try simp only [Act.put, List.setIfInBounds_toArray, List.set_cons_zero, List.set_cons_succ])
        refine wpAnyH_take (i := 4) (oi := ?_) (v := ?_) ?hiu26 (by as_aux_lemma => kernel_rfl) (by as_aux_lemma => kernel_rfl) (by as_aux_lemma => kernel_rfl) ?hQu26 (Or.inl ⟨?hwu26, ?hyu26⟩) hHeld ?restu26
        case hiu26 => simp only [List.getElem?_toArray, List.getElem?_cons_zero, List.getElem?_cons_succ]; rfl
        case hwu26 => rfl
        case hyu26 => (intro w9 hSw; (try dsimp only at hSw); go_simp; (try with_reducible rfl))
        case hQu26 => exact fun _ _ _ h => h
        (try simp only [Act.put, List.setIfInBounds_toArray, List.set_cons_zero, List.set_cons_succ])
        refine wpAnyH_ready (rs := [5]) (by as_aux_lemma => kernel_rfl) (by simp) (AllReadyH.cons (o := ?_) ?hiu27 (fun K hK => ?_) AllReadyH.nil)
        case hiu27 => simp only [List.getElem?_toArray, List.getElem?_cons_zero, List.getElem?_cons_succ]; rfl
        go_wp2_with (go_at_call 72; (with_reducible refine (tk_any c0 c1 c2 c3 c4 c5 c6 c7 c8 c9 c10 _).mono ?_); rintro e w8 ⟨he, hb8⟩; rw [hT] at he; subst he)
        refine hK.out _ _ ?_ (fun hHeld => ?_)
        · exact sh2_below (by assumption) hb8
        clear hK K
        (try simp only [Act.put, List.setIfInBounds_toArray, List.set_cons_zero, List.set_cons_succ])
        refine wpAnyH_take (i := 6) (oi := ?_) (v := ?_) ?hiu28 (by as_aux_lemma => kernel_rfl) (by as_aux_lemma => kernel_rfl) (by as_aux_lemma => kernel_rfl) ?hQu28 (Or.inl ⟨?hwu28, ?hyu28⟩) hHeld ?restu28
        case hiu28 => simp only [List.getElem?_toArray, List.getElem?_cons_zero, List.getElem?_cons_succ]; rfl
        case hwu28 => rfl
        case hyu28 => (intro w9 hSw; (try dsimp only at hSw); go_simp; (try with_reducible rfl))
        case hQu28 => exact fun _ _ _ h => h
        (try simp only [Act.put, List.setIfInBounds_toArray, List.set_cons_zero, List.set_cons_succ])
        refine wpAnyH_take (i := 7) (oi := ?_) (v := ?_) ?hiu29 (by as_aux_lemma => kernel_rfl) (by as_aux_lemma => kernel_rfl) (by as_aux_lemma => kernel_rfl) ?hQu29 (Or.inl ⟨?hwu29, ?hyu29⟩) hHeld ?restu29
        case hiu29 => simp only [List.getElem?_toArray, List.getElem?_cons_zero, List.getElem?_cons_succ]; rfl
        case hwu29 => rfl
        case hyu29 => (intro w9 hSw; (try dsimp only at hSw); go_simp; (try with_reducible rfl))
        case hQu29 => exact fun _ _ _ h => h
        (try simp only [Act.put, List.setIfInBounds_toArray, List.set_cons_zero, List.set_cons_succ])
        refine wpAnyH_take (i := 8) (oi := ?_) (v := ?_) ?hiu30 (by as_aux_lemma => kernel_rfl) (by as_aux_lemma => kernel_rfl) (by as_aux_lemma => kernel_rfl) ?hQu30 (Or.inl ⟨?hwu30, ?hyu30⟩) hHeld ?restu30
        case hiu30 => simp only [List.getElem?_toArray, List.getElem?_cons_zero, List.getElem?_cons_succ]; rfl
        case hwu30 => rfl
        case hyu30 => (intro w9 hSw; (try dsimp only at hSw); go_simp; (try with_reducible rfl))
        case hQu30 => exact fun _ _ _ h => h
        (try simp only [Act.put, List.setIfInBounds_toArray, List.set_cons_zero, List.set_cons_succ])
        refine wpAnyH_take (i := 9) (oi := ?_) (v := ?_) ?hiu31 (by as_aux_lemma => kernel_rfl) (by as_aux_lemma => kernel_rfl) (by as_aux_lemma => kernel_rfl) ?hQu31 (Or.inl ⟨?hwu31, ?hyu31⟩) hHeld ?restu31
        case hiu31 => simp only [List.getElem?_toArray, List.getElem?_cons_zero, List.getElem?_cons_succ]; rfl
        case hwu31 => rfl
        case hyu31 => (intro w9 hSw; (try dsimp only at hSw); go_simp; (try with_reducible rfl))
        case hQu31 => exact fun _ _ _ h => h
        (try simp only [Act.put, List.setIfInBounds_toArray, List.set_cons_zero, List.set_cons_succ])
        refine wpAnyH_take (i := 10) (oi := ?_) (v := ?_) ?hiu32 (by as_aux_lemma => kernel_rfl) (by as_aux_lemma => kernel_rfl) (by as_aux_lemma => kernel_rfl) ?hQu32 (Or.inl ⟨?hwu32, ?hyu32⟩) hHeld ?restu32
        case hiu32 => simp only [List.getElem?_toArray, List.getElem?_cons_zero, List.getElem?_cons_succ]; rfl
        case hwu32 => rfl
        case hyu32 => (intro w9 hSw; (try dsimp only at hSw); go_simp; (try with_reducible rfl))
        case hQu32 => exact fun _ _ _ h => h
        (try simp only [Act.put, List.setIfInBounds_toArray, List.set_cons_zero, List.set_cons_succ])
        refine wpAnyH_take (i := 11) (oi := ?_) (v := ?_) ?hiu33 (by as_aux_lemma => kernel_rfl) (by as_aux_lemma => kernel_rfl) (by as_aux_lemma => kernel_rfl) ?hQu33 (Or.inl ⟨?hwu33, ?hyu33⟩) hHeld ?restu33
        case hiu33 => simp only [List.getElem?_toArray, List.getElem?_cons_zero, List.getElem?_cons_succ]; rfl
        case hwu33 => rfl
        case hyu33 => (intro w9 hSw; (try dsimp only at hSw); go_simp; (try with_reducible rfl))
        case hQu33 => exact fun _ _ _ h => h
        (try simp only [Act.put, List.setIfInBounds_toArray, List.set_cons_zero, List.set_cons_succ])
        refine wpAnyH_take (i := 12) (oi := ?_) (v := ?_) ?hiu34 (by as_aux_lemma => kernel_rfl) (by as_aux_lemma => kernel_rfl) (by as_aux_lemma => kernel_rfl) ?hQu34 (Or.inl ⟨?hwu34, ?hyu34⟩) hHeld ?restu34
        case hiu34 => simp only [List.getElem?_toArray, List.getElem?_cons_zero, List.getElem?_cons_succ]; rfl
        case hwu34 => rfl
        case hyu34 => (intro w9 hSw; (try dsimp only at hSw); go_simp; (try with_reducible rfl))
        case hQu34 => exact fun _ _ _ h => h
        (try simp only [Act.put, List.setIfInBounds_toArray, List.set_cons_zero, List.set_cons_succ])
        refine wpAnyH_take (i := 13) (oi := ?_) (v := ?_) ?hiu35 (by as_aux_lemma => kernel_rfl) (by as_aux_lemma => kernel_rfl) (by as_aux_lemma => kernel_rfl) ?hQu35 (Or.inl ⟨?hwu35, ?hyu35⟩) hHeld ?restu35
        case hiu35 => simp only [List.getElem?_toArray, List.getElem?_cons_zero, List.getElem?_cons_succ]; rfl
        case hwu35 => rfl
        case hyu35 => (intro w9 hSw; (try dsimp only at hSw); go_simp; (try with_reducible rfl))
        case hQu35 => exact fun _ _ _ h => h
        (try simp only [Act.put, List.setIfInBounds_toArray, List.set_cons_zero, List.set_cons_succ])
        refine wpAnyH_take (i := 14) (oi := ?_) (v := ?_) ?hiu36 (by as_aux_lemma => kernel_rfl) (by as_aux_lemma => kernel_rfl) (by as_aux_lemma => kernel_rfl) ?hQu36 (Or.inl ⟨?hwu36, ?hyu36⟩) hHeld ?restu36
        case hiu36 => simp only [List.getElem?_toArray, List.getElem?_cons_zero, List.getElem?_cons_succ]; rfl
        case hwu36 => rfl
        case hyu36 => (intro w9 hSw; (try dsimp only at hSw); go_simp; (try with_reducible rfl))
        case hQu36 => exact fun _ _ _ h => h
        (try simp only [Act.put, List.setIfInBounds_toArray, List.set_cons_zero, List.set_cons_succ])
        refine wpAnyH_take (i := 15) (oi := ?_) (v := ?_) ?hiu37 (by as_aux_lemma => kernel_rfl) (by as_aux_lemma => kernel_rfl) (by as_aux_lemma => kernel_rfl) ?hQu37 (Or.inl ⟨?hwu37, ?hyu37⟩) hHeld ?restu37
        case hiu37 => simp only [List.getElem?_toArray, List.getElem?_cons_zero, List.getElem?_cons_succ]; rfl
        case hwu37 => rfl
        case hyu37 => (intro w9 hSw; (try dsimp only at hSw); go_simp; (try with_reducible rfl))
        case hQu37 => exact fun _ _ _ h => h
        (try simp only [Act.put, List.setIfInBounds_toArray, List.set_cons_zero, List.set_cons_succ])
        refine wpAnyH_take (i := 16) (oi := ?_) (v := ?_) ?hiu38 (by as_aux_lemma => kernel_rfl) (by as_aux_lemma => kernel_rfl) (by as_aux_lemma => kernel_rfl) ?hQu38 (Or.inl ⟨?hwu38, ?hyu38⟩) hHeld ?restu38
        case hiu38 => simp only [List.getElem?_toArray, List.getElem?_cons_zero, List.getElem?_cons_succ]; rfl
        case hwu38 => rfl
        case hyu38 => (intro w9 hSw; (try dsimp only at hSw); go_simp; (try with_reducible rfl))
        case hQu38 => exact fun _ _ _ h => h
        (try simp only [Act.put, List.setIfInBounds_toArray, List.set_cons_zero, List.set_cons_succ])
        refine wpAnyH_take (i := 17) (oi := ?_) (v := ?_) ?hiu39 (by as_aux_lemma => kernel_rfl) (by as_aux_lemma => kernel_rfl) (by as_aux_lemma => kernel_rfl) ?hQu39 (Or.inl ⟨?hwu39, ?hyu39⟩) hHeld ?restu39
        case hiu39 => simp only [List.getElem?_toArray, List.getElem?_cons_zero, List.getElem?_cons_succ]; rfl
        case hwu39 => rfl
        case hyu39 => (intro w9 hSw; (try dsimp only at hSw); go_simp; (try with_reducible rfl))
        case hQu39 => exact fun _ _ _ h => h
        (try simp only [Act.put, List.setIfInBounds_toArray, List.set_cons_zero, List.set_cons_succ])
        refine wpAnyH_ready (rs := [18]) (by as_aux_lemma => kernel_rfl) (by simp) (AllReadyH.cons (o := ?_) ?hiu40 (fun K hK => ?_) AllReadyH.nil)
        case hiu40 => simp only [List.getElem?_toArray, List.getElem?_cons_zero, List.getElem?_cons_succ]; rfl
        rw [if_pos (by rfl)]
        go_wp2_with fail
        refine (suits_any c0 c1 c2 c3 c4 c5 c6 c7 c8 c9 c10 c12 c13 _).mono ?_
        rintro e w9 ⟨he, hb9⟩
        rw [hU] at he
        subst he
        dsimp only
        refine hK.out _ _ ?_ (fun hHeld => ?_)
        · exact sh2_below (by assumption) hb9
        clear hK K
        (try simp only [Act.put, List.setIfInBounds_toArray, List.set_cons_zero, List.set_cons_succ])
        refine wpAnyH_take (i := 19) (oi := ?_) (v := ?_) ?hiu41 (by as_aux_lemma => kernel_rfl) (by as_aux_lemma => kernel_rfl) (by as_aux_lemma => kernel_rfl) ?hQu41 (Or.inl ⟨?hwu41, ?hyu41⟩) hHeld ?restu41
        case hiu41 => simp only [List.getElem?_toArray, List.getElem?_cons_zero, List.getElem?_cons_succ]; rfl
        case hwu41 => rfl
        case hyu41 => (intro w9 hSw; (try dsimp only at hSw); go_simp; (try with_reducible rfl))
        case hQu41 => exact fun _ _ _ h => h
        (try simp only [Act.put, List.setIfInBounds_toArray, List.set_cons_zero, List.set_cons_succ])
        refine wpAnyH_take (i := 20) (oi := ?_) (v := ?_) ?hiu42 (by as_aux_lemma => kernel_rfl) (by as_aux_lemma => kernel_rfl) (by as_aux_lemma => kernel_rfl) ?hQu42 (Or.inl ⟨?hwu42, ?hyu42⟩) hHeld ?restu42
        case hiu42 => simp only [List.getElem?_toArray, List.getElem?_cons_zero, List.getElem?_cons_succ]; rfl
        case hwu42 => rfl
        case hyu42 => (intro w9 hSw; (try dsimp only at hSw); go_simp; (try with_reducible rfl))
        case hQu42 => exact fun _ _ _ h => h
        (try simp only [Act.put, List.setIfInBounds_toArray, List.set_cons_zero, List.set_cons_succ])
        refine wpAnyH_done (by kernel_rfl) ?_ _
        have hgZ := (hHeld.2.block w.heap.size hzr).trans hgO
        have hzZ : w.heap.size < w9.heap.size := Nat.lt_of_lt_of_le hzr hHeld.2.size
        have HBZ := Lib.hid (bT HBr.out hHeld.2)
        have hcz : ∀ o, o < 15 → w9.cell? ⟨w.heap.size, o, none⟩ = some (.int .i64 0) := by
          intro o ho
          rw [cell_of_row _ w.heap.size o _ _ _ hgZ]
          have : o = 0 ∨ o = 1 ∨ o = 2 ∨ o = 3 ∨ o = 4 ∨ o = 5 ∨ o = 6 ∨ o = 7 ∨ o = 8 ∨ o = 9 ∨ o = 10 ∨ o = 11 ∨ o = 12 ∨ o = 13 ∨ o = 14 := by omega
          rcases this with rfl | rfl | rfl | rfl | rfl | rfl | rfl | rfl | rfl | rfl | rfl | rfl | rfl | rfl | rfl <;> rfl
        have hfz : ∀ o, w9.frozen? ⟨w.heap.size, o, none⟩ = false := by intro o; simp [World.frozen?, hgZ]
        have HGZ := Lib.hid hgZ
        have hHc := hHeld.1
        clear hHeld hgZ
        go_wp2
        exact ⟨rfl, getOut (c := zeroC) rfl rfl (row_set (row_set (row_set (row_set (row_set (row_set (row_set (row_set (row_set (row_set (row_set (row_set (row_set (row_set (row_set HGZ.out 0 _) 1 _) 2 _) 3 _) 4 _) 5 _) 6 _) 7 _) 8 _) 9 _) 10 _) 11 _) 12 _) 13 _) 14 _) rfl E.out (by have h := HBZ.out; repeat (first | (with_reducible exact bR _) | (with_reducible refine bT ?_ (by assumption)) | (with_reducible apply bA) | (with_reducible apply bD) | (with_reducible apply bN) | (with_reducible refine bS ?_ (by first | omega | (simp; done) | (simp; omega)))))⟩
      | true =>
        have E := Lib.hid (show layG L = ([c0, c1, c2, c3, c4, c5, c6, c7, c8, c9, c10, c11, c12, c13, c14], 0) by rw [HX.out]; simp [okC, hT, hU])
        refine wp_region_held_drew (S := fun w9 => (b < w9.heap.size ∧ w9.cell? ⟨b, 0, none⟩ = some (.int .i64 c0) ∧ w9.cell? ⟨b, 1, none⟩ = some (.int .i64 c1) ∧ w9.cell? ⟨b, 2, none⟩ = some (.int .i64 c2) ∧ w9.cell? ⟨b, 3, none⟩ = some (.int .i64 c3) ∧ w9.cell? ⟨b, 4, none⟩ = some (.int .i64 c4) ∧ w9.cell? ⟨b, 5, none⟩ = some (.int .i64 c5) ∧ w9.cell? ⟨b, 6, none⟩ = some (.int .i64 c6) ∧ w9.cell? ⟨b, 7, none⟩ = some (.int .i64 c7) ∧ w9.cell? ⟨b, 8, none⟩ = some (.int .i64 c8) ∧ w9.cell? ⟨b, 9, none⟩ = some (.int .i64 c9) ∧ w9.cell? ⟨b, 10, none⟩ = some (.int .i64 c10) ∧ w9.cell? ⟨b, 11, none⟩ = some (.int .i64 c11) ∧ w9.cell? ⟨b, 12, none⟩ = some (.int .i64 c12) ∧ w9.cell? ⟨b, 13, none⟩ = some (.int .i64 c13) ∧ w9.cell? ⟨b, 14, none⟩ = some (.int .i64 c14)) ∧ Below wr.heap.size wr w9) (by kernel_rfl) ⟨hq0, (Below.refl _ _).drew⟩ (fun hHeld => ?_)
        refine wpAnyH_take (i := 0) (oi := ?_) (v := ?_) ?hiu43 (by as_aux_lemma => kernel_rfl) (by as_aux_lemma => kernel_rfl) (by as_aux_lemma => kernel_rfl) ?hQu43 (Or.inl ⟨?hwu43, ?hyu43⟩) hHeld ?restu43
        case hiu43 => simp only [List.getElem?_toArray, List.getElem?_cons_zero, List.getElem?_cons_succ]; rfl
        case hwu43 => rfl
        case hyu43 => (intro w9 hSw; (try dsimp only at hSw); go_simp; (try with_reducible rfl))
        case hQu43 => exact fun _ _ _ h => h
        (try simp only [Act.put, List.setIfInBounds_toArray, List.set_cons_zero, List.set_cons_succ])
        refine wpAnyH_take (i := 1) (oi := ?_) (v := ?_) ?hiu44 (by as_aux_lemma => kernel_rfl) (by as_aux_lemma => kernel_rfl) (by as_aux_lemma => kernel_rfl) ?hQu44 (Or.inl ⟨?hwu44, ?hyu44⟩) hHeld ?restu44
        case hiu44 => simp only [List.getElem?_toArray, List.getElem?_cons_zero, List.getElem?_cons_succ]; rfl
        case hwu44 => rfl
        case hyu44 => (intro w9 hSw; (try dsimp only at hSw); go_simp; (try with_reducible rfl))
        case hQu44 => exact fun _ _ _ h => h
        (try simp only [Act.put, List.setIfInBounds_toArray, List.set_cons_zero, List.set_cons_succ])
        refine wpAnyH_take (i := 2) (oi := ?_) (v := ?_) ?hiu45 (by as_aux_lemma => kernel_rfl) (by as_aux_lemma => kernel_rfl) (by as_aux_lemma => kernel_rfl) ?hQu45 (Or.inl ⟨?hwu45, ?hyu45⟩) hHeld ?restu45
        case hiu45 => simp only [List.getElem?_toArray, List.getElem?_cons_zero, List.getElem?_cons_succ]; rfl
        case hwu45 => rfl
        case hyu45 => (intro w9 hSw; (try dsimp only at hSw); go_simp; (try with_reducible rfl))
        case hQu45 => exact fun _ _ _ h => h
        (try simp only [Act.put, List.setIfInBounds_toArray, List.set_cons_zero, List.set_cons_succ])
        refine wpAnyH_take (i := 3) (oi := ?_) (v := ?_) ?hiu46 (by as_aux_lemma => kernel_rfl) (by as_aux_lemma => kernel_rfl) (by as_aux_lemma => kernel_rfl) ?hQu46 (Or.inl ⟨?hwu46, ?hyu46⟩) hHeld ?restu46
        case hiu46 => simp only [List.getElem?_toArray, List.getElem?_cons_zero, List.getElem?_cons_succ]; rfl
        case hwu46 => rfl
        case hyu46 => (intro w9 hSw; (try dsimp only at hSw); go_simp; (try with_reducible rfl))
        case hQu46 => exact fun _ _ _ h => h
        (try simp only [Act.put, List.setIfInBounds_toArray, List.set_cons_zero, List.set_cons_succ])
        refine wpAnyH_take (i := 4) (oi := ?_) (v := ?_) ?hiu47 (by as_aux_lemma => kernel_rfl) (by as_aux_lemma => kernel_rfl) (by as_aux_lemma => kernel_rfl) ?hQu47 (Or.inl ⟨?hwu47, ?hyu47⟩) hHeld ?restu47
        case hiu47 => simp only [List.getElem?_toArray, List.getElem?_cons_zero, List.getElem?_cons_succ]; rfl
        case hwu47 => rfl
        case hyu47 => (intro w9 hSw; (try dsimp only at hSw); go_simp; (try with_reducible rfl))
        case hQu47 => exact fun _ _ _ h => h
        (try simp only [Act.put, List.setIfInBounds_toArray, List.set_cons_zero, List.set_cons_succ])
        refine wpAnyH_ready (rs := [5]) (by as_aux_lemma => kernel_rfl) (by simp) (AllReadyH.cons (o := ?_) ?hiu48 (fun K hK => ?_) AllReadyH.nil)
        case hiu48 => simp only [List.getElem?_toArray, List.getElem?_cons_zero, List.getElem?_cons_succ]; rfl
        go_wp2_with (go_at_call 72; (with_reducible refine (tk_any c0 c1 c2 c3 c4 c5 c6 c7 c8 c9 c10 _).mono ?_); rintro e w8 ⟨he, hb8⟩; rw [hT] at he; subst he)
        refine hK.out _ _ ?_ (fun hHeld => ?_)
        · exact sh2_below (by assumption) hb8
        clear hK K
        (try simp only [Act.put, List.setIfInBounds_toArray, List.set_cons_zero, List.set_cons_succ])
        refine wpAnyH_take (i := 6) (oi := ?_) (v := ?_) ?hiu49 (by as_aux_lemma => kernel_rfl) (by as_aux_lemma => kernel_rfl) (by as_aux_lemma => kernel_rfl) ?hQu49 (Or.inl ⟨?hwu49, ?hyu49⟩) hHeld ?restu49
        case hiu49 => simp only [List.getElem?_toArray, List.getElem?_cons_zero, List.getElem?_cons_succ]; rfl
        case hwu49 => rfl
        case hyu49 => (intro w9 hSw; (try dsimp only at hSw); go_simp; (try with_reducible rfl))
        case hQu49 => exact fun _ _ _ h => h
        (try simp only [Act.put, List.setIfInBounds_toArray, List.set_cons_zero, List.set_cons_succ])
        refine wpAnyH_take (i := 7) (oi := ?_) (v := ?_) ?hiu50 (by as_aux_lemma => kernel_rfl) (by as_aux_lemma => kernel_rfl) (by as_aux_lemma => kernel_rfl) ?hQu50 (Or.inl ⟨?hwu50, ?hyu50⟩) hHeld ?restu50
        case hiu50 => simp only [List.getElem?_toArray, List.getElem?_cons_zero, List.getElem?_cons_succ]; rfl
        case hwu50 => rfl
        case hyu50 => (intro w9 hSw; (try dsimp only at hSw); go_simp; (try with_reducible rfl))
        case hQu50 => exact fun _ _ _ h => h
        (try simp only [Act.put, List.setIfInBounds_toArray, List.set_cons_zero, List.set_cons_succ])
        refine wpAnyH_take (i := 8) (oi := ?_) (v := ?_) ?hiu51 (by as_aux_lemma => kernel_rfl) (by as_aux_lemma => kernel_rfl) (by as_aux_lemma => kernel_rfl) ?hQu51 (Or.inl ⟨?hwu51, ?hyu51⟩) hHeld ?restu51
        case hiu51 => simp only [List.getElem?_toArray, List.getElem?_cons_zero, List.getElem?_cons_succ]; rfl
        case hwu51 => rfl
        case hyu51 => (intro w9 hSw; (try dsimp only at hSw); go_simp; (try with_reducible rfl))
        case hQu51 => exact fun _ _ _ h => h
        (try simp only [Act.put, List.setIfInBounds_toArray, List.set_cons_zero, List.set_cons_succ])
        refine wpAnyH_take (i := 9) (oi := ?_) (v := ?_) ?hiu52 (by as_aux_lemma => kernel_rfl) (by as_aux_lemma => kernel_rfl) (by as_aux_lemma => kernel_rfl) ?hQu52 (Or.inl ⟨?hwu52, ?hyu52⟩) hHeld ?restu52
        case hiu52 => simp only [List.getElem?_toArray, List.getElem?_cons_zero, List.getElem?_cons_succ]; rfl
        case hwu52 => rfl
        case hyu52 => (intro w9 hSw; (try dsimp only at hSw); go_simp; (try with_reducible rfl))
        case hQu52 => exact fun _ _ _ h => h
        (try simp only [Act.put, List.setIfInBounds_toArray, List.set_cons_zero, List.set_cons_succ])
        refine wpAnyH_take (i := 10) (oi := ?_) (v := ?_) ?hiu53 (by as_aux_lemma => kernel_rfl) (by as_aux_lemma => kernel_rfl) (by as_aux_lemma => kernel_rfl) ?hQu53 (Or.inl ⟨?hwu53, ?hyu53⟩) hHeld ?restu53
        case hiu53 => simp only [List.getElem?_toArray, List.getElem?_cons_zero, List.getElem?_cons_succ]; rfl
        case hwu53 => rfl
        case hyu53 => (intro w9 hSw; (try dsimp only at hSw); go_simp; (try with_reducible rfl))
        case hQu53 => exact fun _ _ _ h => h
        (try simp only [Act.put, List.setIfInBounds_toArray, List.set_cons_zero, List.set_cons_succ])
        refine wpAnyH_take (i := 11) (oi := ?_) (v := ?_) ?hiu54 (by as_aux_lemma => kernel_rfl) (by as_aux_lemma => kernel_rfl) (by as_aux_lemma => kernel_rfl) ?hQu54 (Or.inl ⟨?hwu54, ?hyu54⟩) hHeld ?restu54
        case hiu54 => simp only [List.getElem?_toArray, List.getElem?_cons_zero, List.getElem?_cons_succ]; rfl
        case hwu54 => rfl
        case hyu54 => (intro w9 hSw; (try dsimp only at hSw); go_simp; (try with_reducible rfl))
        case hQu54 => exact fun _ _ _ h => h
        (try simp only [Act.put, List.setIfInBounds_toArray, List.set_cons_zero, List.set_cons_succ])
        refine wpAnyH_take (i := 12) (oi := ?_) (v := ?_) ?hiu55 (by as_aux_lemma => kernel_rfl) (by as_aux_lemma => kernel_rfl) (by as_aux_lemma => kernel_rfl) ?hQu55 (Or.inl ⟨?hwu55, ?hyu55⟩) hHeld ?restu55
        case hiu55 => simp only [List.getElem?_toArray, List.getElem?_cons_zero, List.getElem?_cons_succ]; rfl
        case hwu55 => rfl
        case hyu55 => (intro w9 hSw; (try dsimp only at hSw); go_simp; (try with_reducible rfl))
        case hQu55 => exact fun _ _ _ h => h
        (try simp only [Act.put, List.setIfInBounds_toArray, List.set_cons_zero, List.set_cons_succ])
        refine wpAnyH_take (i := 13) (oi := ?_) (v := ?_) ?hiu56 (by as_aux_lemma => kernel_rfl) (by as_aux_lemma => kernel_rfl) (by as_aux_lemma => kernel_rfl) ?hQu56 (Or.inl ⟨?hwu56, ?hyu56⟩) hHeld ?restu56
        case hiu56 => simp only [List.getElem?_toArray, List.getElem?_cons_zero, List.getElem?_cons_succ]; rfl
        case hwu56 => rfl
        case hyu56 => (intro w9 hSw; (try dsimp only at hSw); go_simp; (try with_reducible rfl))
        case hQu56 => exact fun _ _ _ h => h
        (try simp only [Act.put, List.setIfInBounds_toArray, List.set_cons_zero, List.set_cons_succ])
        refine wpAnyH_take (i := 14) (oi := ?_) (v := ?_) ?hiu57 (by as_aux_lemma => kernel_rfl) (by as_aux_lemma => kernel_rfl) (by as_aux_lemma => kernel_rfl) ?hQu57 (Or.inl ⟨?hwu57, ?hyu57⟩) hHeld ?restu57
        case hiu57 => simp only [List.getElem?_toArray, List.getElem?_cons_zero, List.getElem?_cons_succ]; rfl
        case hwu57 => rfl
        case hyu57 => (intro w9 hSw; (try dsimp only at hSw); go_simp; (try with_reducible rfl))
        case hQu57 => exact fun _ _ _ h => h
        (try simp only [Act.put, List.setIfInBounds_toArray, List.set_cons_zero, List.set_cons_succ])
        refine wpAnyH_take (i := 15) (oi := ?_) (v := ?_) ?hiu58 (by as_aux_lemma => kernel_rfl) (by as_aux_lemma => kernel_rfl) (by as_aux_lemma => kernel_rfl) ?hQu58 (Or.inl ⟨?hwu58, ?hyu58⟩) hHeld ?restu58
        case hiu58 => simp only [List.getElem?_toArray, List.getElem?_cons_zero, List.getElem?_cons_succ]; rfl
        case hwu58 => rfl
        case hyu58 => (intro w9 hSw; (try dsimp only at hSw); go_simp; (try with_reducible rfl))
        case hQu58 => exact fun _ _ _ h => h
        (try simp only [Act.put, List.setIfInBounds_toArray, List.set_cons_zero, List.set_cons_succ])
        refine wpAnyH_take (i := 16) (oi := ?_) (v := ?_) ?hiu59 (by as_aux_lemma => kernel_rfl) (by as_aux_lemma => kernel_rfl) (by as_aux_lemma => kernel_rfl) ?hQu59 (Or.inl ⟨?hwu59, ?hyu59⟩) hHeld ?restu59
        case hiu59 => simp only [List.getElem?_toArray, List.getElem?_cons_zero, List.getElem?_cons_succ]; rfl
        case hwu59 => rfl
        case hyu59 => (intro w9 hSw; (try dsimp only at hSw); go_simp; (try with_reducible rfl))
        case hQu59 => exact fun _ _ _ h => h
        (try simp only [Act.put, List.setIfInBounds_toArray, List.set_cons_zero, List.set_cons_succ])
        refine wpAnyH_take (i := 17) (oi := ?_) (v := ?_) ?hiu60 (by as_aux_lemma => kernel_rfl) (by as_aux_lemma => kernel_rfl) (by as_aux_lemma => kernel_rfl) ?hQu60 (Or.inl ⟨?hwu60, ?hyu60⟩) hHeld ?restu60
        case hiu60 => simp only [List.getElem?_toArray, List.getElem?_cons_zero, List.getElem?_cons_succ]; rfl
        case hwu60 => rfl
        case hyu60 => (intro w9 hSw; (try dsimp only at hSw); go_simp; (try with_reducible rfl))
        case hQu60 => exact fun _ _ _ h => h
        (try simp only [Act.put, List.setIfInBounds_toArray, List.set_cons_zero, List.set_cons_succ])
        refine wpAnyH_ready (rs := [18]) (by as_aux_lemma => kernel_rfl) (by simp) (AllReadyH.cons (o := ?_) ?hiu61 (fun K hK => ?_) AllReadyH.nil)
        case hiu61 => simp only [List.getElem?_toArray, List.getElem?_cons_zero, List.getElem?_cons_succ]; rfl
        rw [if_pos (by rfl)]
        go_wp2_with fail
        refine (suits_any c0 c1 c2 c3 c4 c5 c6 c7 c8 c9 c10 c12 c13 _).mono ?_
        rintro e w9 ⟨he, hb9⟩
        rw [hU] at he
        subst he
        dsimp only
        refine hK.out _ _ ?_ (fun hHeld => ?_)
        · exact sh2_below (by assumption) hb9
        clear hK K
        (try simp only [Act.put, List.setIfInBounds_toArray, List.set_cons_zero, List.set_cons_succ])
        refine wpAnyH_take (i := 19) (oi := ?_) (v := ?_) ?hiu62 (by as_aux_lemma => kernel_rfl) (by as_aux_lemma => kernel_rfl) (by as_aux_lemma => kernel_rfl) ?hQu62 (Or.inl ⟨?hwu62, ?hyu62⟩) hHeld ?restu62
        case hiu62 => simp only [List.getElem?_toArray, List.getElem?_cons_zero, List.getElem?_cons_succ]; rfl
        case hwu62 => rfl
        case hyu62 => (intro w9 hSw; (try dsimp only at hSw); go_simp; (try with_reducible rfl))
        case hQu62 => exact fun _ _ _ h => h
        (try simp only [Act.put, List.setIfInBounds_toArray, List.set_cons_zero, List.set_cons_succ])
        refine wpAnyH_take (i := 20) (oi := ?_) (v := ?_) ?hiu63 (by as_aux_lemma => kernel_rfl) (by as_aux_lemma => kernel_rfl) (by as_aux_lemma => kernel_rfl) ?hQu63 (Or.inl ⟨?hwu63, ?hyu63⟩) hHeld ?restu63
        case hiu63 => simp only [List.getElem?_toArray, List.getElem?_cons_zero, List.getElem?_cons_succ]; rfl
        case hwu63 => rfl
        case hyu63 => (intro w9 hSw; (try dsimp only at hSw); go_simp; (try with_reducible rfl))
        case hQu63 => exact fun _ _ _ h => h
        (try simp only [Act.put, List.setIfInBounds_toArray, List.set_cons_zero, List.set_cons_succ])
        refine wpAnyH_done (by kernel_rfl) ?_ _
        have hgZ := (hHeld.2.block w.heap.size hzr).trans hgO
        have hzZ : w.heap.size < w9.heap.size := Nat.lt_of_lt_of_le hzr hHeld.2.size
        have HBZ := Lib.hid (bT HBr.out hHeld.2)
        have hcz : ∀ o, o < 15 → w9.cell? ⟨w.heap.size, o, none⟩ = some (.int .i64 0) := by
          intro o ho
          rw [cell_of_row _ w.heap.size o _ _ _ hgZ]
          have : o = 0 ∨ o = 1 ∨ o = 2 ∨ o = 3 ∨ o = 4 ∨ o = 5 ∨ o = 6 ∨ o = 7 ∨ o = 8 ∨ o = 9 ∨ o = 10 ∨ o = 11 ∨ o = 12 ∨ o = 13 ∨ o = 14 := by omega
          rcases this with rfl | rfl | rfl | rfl | rfl | rfl | rfl | rfl | rfl | rfl | rfl | rfl | rfl | rfl | rfl <;> rfl
        have hfz : ∀ o, w9.frozen? ⟨w.heap.size, o, none⟩ = false := by intro o; simp [World.frozen?, hgZ]
        have HGZ := Lib.hid hgZ
        have hHc := hHeld.1
        clear hHeld hgZ
        go_wp2
        exact ⟨rfl, getOut (c := [c0, c1, c2, c3, c4, c5, c6, c7, c8, c9, c10, c11, c12, c13, c14]) rfl rfl ((set15 _ _ _ _ _ _ _ _ _ _ _ _ _ _ _ HGZ.out).trans rfl) rfl E.out (by have h := HBZ.out; repeat (first | (with_reducible exact bR _) | (with_reducible refine bT ?_ (by assumption)) | (with_reducible apply bA) | (with_reducible apply bD) | (with_reducible apply bN) | (with_reducible refine bS ?_ (by first | omega | (simp; done) | (simp; omega)))))⟩
end Go.Proofs.Ytachkhjbckapoaa

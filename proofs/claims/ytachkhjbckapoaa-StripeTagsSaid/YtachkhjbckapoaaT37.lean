/- Layer 13's Get: what the document's answer computes: the very same function. Layer 13's reference of Put: what it computes. Layer 13's example: laid returns true. Digits and numbers, there and back: the plain laws of Put, Get, Join and Split. Layer 13, the plain laws: what is put is got again, what is got is put as it was, a kind's digits are as many, and the last six digits tell the journey and the key. No condition. -/
import Derived.Test.YtachkhjbckapoaaT36
import Derived.Test.YtachkhjbckapoaaT07
import Derived.Test.YtachkhjbckapoaaT09
import Derived.Test.YtachkhjbckapoaaT35
namespace Go.Proofs.Ytachkhjbckapoaa
open Go.RowKit
set_option linter.unusedVariables false
set_option maxRecDepth 100000
set_option linter.unusedSimpArgs false

theorem q12_below {b : Nat} {wr W w9 : World} {c0 c1 c2 c3 c4 c5 c6 c7 c8 c9 c10 c11 : Int} (h : (b < W.heap.size ∧ W.cell? ⟨b, 0, none⟩ = some (.int .i64 c0) ∧ W.cell? ⟨b, 1, none⟩ = some (.int .i64 c1) ∧ W.cell? ⟨b, 2, none⟩ = some (.int .i64 c2) ∧ W.cell? ⟨b, 3, none⟩ = some (.int .i64 c3) ∧ W.cell? ⟨b, 4, none⟩ = some (.int .i64 c4) ∧ W.cell? ⟨b, 5, none⟩ = some (.int .i64 c5) ∧ W.cell? ⟨b, 6, none⟩ = some (.int .i64 c6) ∧ W.cell? ⟨b, 7, none⟩ = some (.int .i64 c7) ∧ W.cell? ⟨b, 8, none⟩ = some (.int .i64 c8) ∧ W.cell? ⟨b, 9, none⟩ = some (.int .i64 c9) ∧ W.cell? ⟨b, 10, none⟩ = some (.int .i64 c10) ∧ W.cell? ⟨b, 11, none⟩ = some (.int .i64 c11)) ∧ Below wr.heap.size wr W) (hb : Below W.heap.size W w9) : (b < w9.heap.size ∧ w9.cell? ⟨b, 0, none⟩ = some (.int .i64 c0) ∧ w9.cell? ⟨b, 1, none⟩ = some (.int .i64 c1) ∧ w9.cell? ⟨b, 2, none⟩ = some (.int .i64 c2) ∧ w9.cell? ⟨b, 3, none⟩ = some (.int .i64 c3) ∧ w9.cell? ⟨b, 4, none⟩ = some (.int .i64 c4) ∧ w9.cell? ⟨b, 5, none⟩ = some (.int .i64 c5) ∧ w9.cell? ⟨b, 6, none⟩ = some (.int .i64 c6) ∧ w9.cell? ⟨b, 7, none⟩ = some (.int .i64 c7) ∧ w9.cell? ⟨b, 8, none⟩ = some (.int .i64 c8) ∧ w9.cell? ⟨b, 9, none⟩ = some (.int .i64 c9) ∧ w9.cell? ⟨b, 10, none⟩ = some (.int .i64 c10) ∧ w9.cell? ⟨b, 11, none⟩ = some (.int .i64 c11)) ∧ Below wr.heap.size wr w9 :=
  ⟨⟨Nat.lt_of_lt_of_le h.1.1 hb.size, by have hl := h.1.1; obtain ⟨hc, _⟩ := bcell hb; simp only [hc b _ hl]; exact h.1.2⟩, bT h.2 hb⟩
theorem q13_below {b : Nat} {wr W w9 : World} {c0 c1 c2 c3 c4 c5 c6 c7 c8 c9 c10 c11 c12 : Int} (h : (b < W.heap.size ∧ W.cell? ⟨b, 0, none⟩ = some (.int .i64 c0) ∧ W.cell? ⟨b, 1, none⟩ = some (.int .i64 c1) ∧ W.cell? ⟨b, 2, none⟩ = some (.int .i64 c2) ∧ W.cell? ⟨b, 3, none⟩ = some (.int .i64 c3) ∧ W.cell? ⟨b, 4, none⟩ = some (.int .i64 c4) ∧ W.cell? ⟨b, 5, none⟩ = some (.int .i64 c5) ∧ W.cell? ⟨b, 6, none⟩ = some (.int .i64 c6) ∧ W.cell? ⟨b, 7, none⟩ = some (.int .i64 c7) ∧ W.cell? ⟨b, 8, none⟩ = some (.int .i64 c8) ∧ W.cell? ⟨b, 9, none⟩ = some (.int .i64 c9) ∧ W.cell? ⟨b, 10, none⟩ = some (.int .i64 c10) ∧ W.cell? ⟨b, 11, none⟩ = some (.int .i64 c11) ∧ W.cell? ⟨b, 12, none⟩ = some (.int .i64 c12)) ∧ Below wr.heap.size wr W) (hb : Below W.heap.size W w9) : (b < w9.heap.size ∧ w9.cell? ⟨b, 0, none⟩ = some (.int .i64 c0) ∧ w9.cell? ⟨b, 1, none⟩ = some (.int .i64 c1) ∧ w9.cell? ⟨b, 2, none⟩ = some (.int .i64 c2) ∧ w9.cell? ⟨b, 3, none⟩ = some (.int .i64 c3) ∧ w9.cell? ⟨b, 4, none⟩ = some (.int .i64 c4) ∧ w9.cell? ⟨b, 5, none⟩ = some (.int .i64 c5) ∧ w9.cell? ⟨b, 6, none⟩ = some (.int .i64 c6) ∧ w9.cell? ⟨b, 7, none⟩ = some (.int .i64 c7) ∧ w9.cell? ⟨b, 8, none⟩ = some (.int .i64 c8) ∧ w9.cell? ⟨b, 9, none⟩ = some (.int .i64 c9) ∧ w9.cell? ⟨b, 10, none⟩ = some (.int .i64 c10) ∧ w9.cell? ⟨b, 11, none⟩ = some (.int .i64 c11) ∧ w9.cell? ⟨b, 12, none⟩ = some (.int .i64 c12)) ∧ Below wr.heap.size wr w9 :=
  ⟨⟨Nat.lt_of_lt_of_le h.1.1 hb.size, by have hl := h.1.1; obtain ⟨hc, _⟩ := bcell hb; simp only [hc b _ hl]; exact h.1.2⟩, bT h.2 hb⟩
theorem q11_below {b : Nat} {wr W w9 : World} {c0 c1 c2 c3 c4 c5 c6 c7 c8 c9 c10 : Int} (h : (b < W.heap.size ∧ W.cell? ⟨b, 0, none⟩ = some (.int .i64 c0) ∧ W.cell? ⟨b, 1, none⟩ = some (.int .i64 c1) ∧ W.cell? ⟨b, 2, none⟩ = some (.int .i64 c2) ∧ W.cell? ⟨b, 3, none⟩ = some (.int .i64 c3) ∧ W.cell? ⟨b, 4, none⟩ = some (.int .i64 c4) ∧ W.cell? ⟨b, 5, none⟩ = some (.int .i64 c5) ∧ W.cell? ⟨b, 6, none⟩ = some (.int .i64 c6) ∧ W.cell? ⟨b, 7, none⟩ = some (.int .i64 c7) ∧ W.cell? ⟨b, 8, none⟩ = some (.int .i64 c8) ∧ W.cell? ⟨b, 9, none⟩ = some (.int .i64 c9) ∧ W.cell? ⟨b, 10, none⟩ = some (.int .i64 c10)) ∧ Below wr.heap.size wr W) (hb : Below W.heap.size W w9) : (b < w9.heap.size ∧ w9.cell? ⟨b, 0, none⟩ = some (.int .i64 c0) ∧ w9.cell? ⟨b, 1, none⟩ = some (.int .i64 c1) ∧ w9.cell? ⟨b, 2, none⟩ = some (.int .i64 c2) ∧ w9.cell? ⟨b, 3, none⟩ = some (.int .i64 c3) ∧ w9.cell? ⟨b, 4, none⟩ = some (.int .i64 c4) ∧ w9.cell? ⟨b, 5, none⟩ = some (.int .i64 c5) ∧ w9.cell? ⟨b, 6, none⟩ = some (.int .i64 c6) ∧ w9.cell? ⟨b, 7, none⟩ = some (.int .i64 c7) ∧ w9.cell? ⟨b, 8, none⟩ = some (.int .i64 c8) ∧ w9.cell? ⟨b, 9, none⟩ = some (.int .i64 c9) ∧ w9.cell? ⟨b, 10, none⟩ = some (.int .i64 c10)) ∧ Below wr.heap.size wr w9 :=
  ⟨⟨Nat.lt_of_lt_of_le h.1.1 hb.size, by have hl := h.1.1; obtain ⟨hc, _⟩ := bcell hb; simp only [hc b _ hl]; exact h.1.2⟩, bT h.2 hb⟩
theorem qr_below {b : Nat} {wr W w9 : World} {c0 c1 c2 c3 c4 c5 c6 c7 c8 c9 c10 c11 c12 c13 c14 : Int} (h : (b < W.heap.size ∧ W.cell? ⟨b, 0, none⟩ = some (.int .i64 c0) ∧ W.cell? ⟨b, 1, none⟩ = some (.int .i64 c1) ∧ W.cell? ⟨b, 2, none⟩ = some (.int .i64 c2) ∧ W.cell? ⟨b, 3, none⟩ = some (.int .i64 c3) ∧ W.cell? ⟨b, 4, none⟩ = some (.int .i64 c4) ∧ W.cell? ⟨b, 5, none⟩ = some (.int .i64 c5) ∧ W.cell? ⟨b, 6, none⟩ = some (.int .i64 c6) ∧ W.cell? ⟨b, 7, none⟩ = some (.int .i64 c7) ∧ W.cell? ⟨b, 8, none⟩ = some (.int .i64 c8) ∧ W.cell? ⟨b, 9, none⟩ = some (.int .i64 c9) ∧ W.cell? ⟨b, 10, none⟩ = some (.int .i64 c10) ∧ W.cell? ⟨b, 11, none⟩ = some (.int .i64 c11) ∧ W.cell? ⟨b, 12, none⟩ = some (.int .i64 c12) ∧ W.cell? ⟨b, 13, none⟩ = some (.int .i64 c13) ∧ W.cell? ⟨b, 14, none⟩ = some (.int .i64 c14)) ∧ Below wr.heap.size wr W) (hb : Below W.heap.size W w9) : (b < w9.heap.size ∧ w9.cell? ⟨b, 0, none⟩ = some (.int .i64 c0) ∧ w9.cell? ⟨b, 1, none⟩ = some (.int .i64 c1) ∧ w9.cell? ⟨b, 2, none⟩ = some (.int .i64 c2) ∧ w9.cell? ⟨b, 3, none⟩ = some (.int .i64 c3) ∧ w9.cell? ⟨b, 4, none⟩ = some (.int .i64 c4) ∧ w9.cell? ⟨b, 5, none⟩ = some (.int .i64 c5) ∧ w9.cell? ⟨b, 6, none⟩ = some (.int .i64 c6) ∧ w9.cell? ⟨b, 7, none⟩ = some (.int .i64 c7) ∧ w9.cell? ⟨b, 8, none⟩ = some (.int .i64 c8) ∧ w9.cell? ⟨b, 9, none⟩ = some (.int .i64 c9) ∧ w9.cell? ⟨b, 10, none⟩ = some (.int .i64 c10) ∧ w9.cell? ⟨b, 11, none⟩ = some (.int .i64 c11) ∧ w9.cell? ⟨b, 12, none⟩ = some (.int .i64 c12) ∧ w9.cell? ⟨b, 13, none⟩ = some (.int .i64 c13) ∧ w9.cell? ⟨b, 14, none⟩ = some (.int .i64 c14)) ∧ Below wr.heap.size wr w9 :=
  ⟨⟨Nat.lt_of_lt_of_le h.1.1 hb.size, by have hl := h.1.1; obtain ⟨hc, _⟩ := bcell hb; simp only [hc b _ hl]; exact h.1.2⟩, bT h.2 hb⟩
theorem splitGo_acc : ∀ (ws l acc : List Int), (splitGo l ws acc).2 = 0 → ∃ t, (splitGo l ws acc).1 = acc ++ t
  | [], l, acc, _ => ⟨[], by simp [splitGo]⟩
  | x :: ws, l, acc, h => by
    rw [splitGo_cons] at h ⊢
    split
    · rename_i hg; rw [if_pos hg] at h; exact absurd h hg
    · rename_i hg
      rw [if_neg hg] at h
      obtain ⟨t, ht⟩ := splitGo_acc ws _ _ h
      exact ⟨[(getR (l.take x.toNat)).1] ++ t, by rw [ht, List.append_assoc]⟩
theorem splitR_head {d : Int} {l ws : List Int} (h9 : ¬ 9 < d) (h : (splitR (d :: l) (1 :: ws)).2 = 0) : ∃ t, (splitR (d :: l) (1 :: ws)).1 = d :: t := by
  unfold splitR at h ⊢
  split
  · rename_i h20; rw [if_pos h20] at h; simp at h
  · rename_i h20
    rw [if_neg h20] at h
    split
    · rename_i hs; rw [hs] at h; simp at h
    · rename_i s hs
      rw [hs] at h
      simp only at h
      split
      · rename_i hn; rw [if_pos hn] at h; simp at h
      · rename_i hn
        rw [if_neg hn] at h
        have hg : getR [d] = (d, 0) := by rw [getR_short (by simp), getGo_cons, if_neg h9]; simp [getGo]
        rw [splitGo_cons] at h ⊢
        simp only [Int.toNat_one, List.take_succ_cons, List.take_zero, hg] at h ⊢
        obtain ⟨t, ht⟩ := splitGo_acc ws _ _ (by simpa using h)
        exact ⟨t, by simpa using ht⟩
theorem wsL_head {d : Int} (h1 : ¬ d < 1) (h4 : ¬ 4 < d) : ∃ ws, wsL d = 1 :: ws := by
  unfold wsL
  rw [if_neg (by omega)]
  split
  · exact ⟨_, rfl⟩
  · split <;> exact ⟨_, rfl⟩

end Go.Proofs.Ytachkhjbckapoaa

namespace Go.Proofs.Ytachkhjbckapoaa
open Go.RowKit
set_option linter.unusedVariables false
set_option maxRecDepth 100000
set_option linter.unusedSimpArgs false

theorem layV_le (k : Int) (c : List Int) (hv : ∀ x ∈ c, x ≤ 9223372036854775807) : ∀ x ∈ layV k c, x ≤ 9223372036854775807 := by
  intro x hx
  obtain ⟨y, _, rfl⟩ := List.mem_map.1 hx
  by_cases hy : y.1 < c.length
  · exact hv _ (getD_mem hy)
  · rw [List.getD_eq_getElem?_getD, List.getElem?_eq_none (by omega)]; simp
theorem layV_len (k : Int) (c : List Int) : (layV k c).length ≤ 13 := by unfold layV; rw [List.length_map]; exact fl_le k
theorem layV4 (a0 a1 a2 a3 a4 a5 a6 a7 a8 a9 a10 a11 a12 a13 a14 : Int) (h : a1 = 4) : layV a1 [a0, a1, a2, a3, a4, a5, a6, a7, a8, a9, a10, a11, a12, a13, a14] = [a1, a0, a4, a5, a7, a8, a10, a2, a3, a9] ++ [a12, a13, a11] := by subst h; rfl
theorem layV0 (a0 a1 a2 a3 a4 a5 a6 a7 a8 a9 a10 a11 a12 a13 a14 : Int) (h1 : ¬ a1 < 1) (h2 : ¬ 4 < a1) (h : ¬ a1 = 4) : layV a1 [a0, a1, a2, a3, a4, a5, a6, a7, a8, a9, a10, a11, a12, a13, a14] = [a1, a0, a4, a5, a7, a8, a10, a2, a3] ++ [a12, a13, a11] := by
  have hk : a1 = 1 ∨ a1 = 2 ∨ a1 = 3 := by omega
  rcases hk with rfl | rfl | rfl <;> rfl

end Go.Proofs.Ytachkhjbckapoaa

namespace Go.Proofs.Ytachkhjbckapoaa
open Go.RowKit
set_option linter.unusedVariables false
set_option maxRecDepth 100000
set_option linter.unusedSimpArgs false

theorem laid_e1 : layR (tkB 42 4 3 20 2 1 0 100 30 10 2) [42, 4, 3, 20, 2, 1, 0, 100, 30, 10, 2, 5, 9, 4, 0] = ([4, 0, 0, 0, 0, 0, 4, 2, 2, 1, 0, 0, 1, 0, 0, 0, 3, 0, 2, 0, 3, 2, 0, 1, 0, 0, 9, 0, 4, 0, 5], 0) := by decide +kernel
theorem laid_e2 : layG [4, 0, 0, 0, 0, 0, 4, 2, 2, 1, 0, 0, 1, 0, 0, 0, 3, 0, 2, 0, 3, 2, 0, 1, 0, 0, 9, 0, 4, 0, 5] = ([42, 4, 3, 20, 2, 1, 0, 100, 30, 10, 2, 5, 9, 4, 0], 0) := by decide +kernel
theorem laid_e3 : layR (tkB 42 4 3 20 2 1 1 100 30 10 2) [42, 4, 3, 20, 2, 1, 1, 100, 30, 10, 2, 5, 9, 4, 0] = ([], 18) := by decide +kernel
theorem laid_e4 : layR (tkB 42 4 3 20 2 1 1 100 30 10 2) [42, 4, 3, 20, 2, 1, 1, 100, 30, 10, 2, 5, 11, 4, 0] = ([], 1) := by decide +kernel
theorem laid_e5 : layG [5, 1] = ([0, 0, 0, 0, 0, 0, 0, 0, 0, 0, 0, 0, 0, 0, 0], 8) := by decide +kernel
theorem laid_e6 : layG [1, 1] = ([0, 0, 0, 0, 0, 0, 0, 0, 0, 0, 0, 0, 0, 0, 0], 14) := by decide +kernel

theorem laid_e7 : wsL 3 = [1, 7, 1, 1, 5, 3, 1, 1, 1, 2, 2, 2] := by decide +kernel
theorem laid_e8 : wsE 3 = 0 := by decide +kernel
theorem laid_e9 : ([4, 0, 0, 0, 0, 0, 4, 2, 2, 1, 0, 0, 1, 0, 0, 0, 3, 0, 2, 0, 3, 2, 0, 1, 0, 0, 9, 0, 4, 0, 5] == ([4, 0, 0, 0, 0, 0, 4, 2, 2, 1, 0, 0, 1, 0, 0, 0, 3, 0, 2, 0, 3, 2, 0, 1, 0, 0, 9, 0, 4, 0, 5] : List Int)) = true := by decide +kernel
theorem laid_e10 : suB 10 10 40 = true := by decide +kernel
theorem laid_e11 : suB 10 11 4 = false := by decide +kernel
theorem RdI.setCell {W : World} {k : IntKind} {A : Option Addr} {l : List Int} {b o : Nat} {v : Value} (h : RdI W k A l) (hne : ∀ ad, A = some ad → ad.block ≠ b) : RdI (W.setCell ⟨b, o, none⟩ v) k A l := by
  rcases h with h | ⟨ad, rfl, hlt, hc⟩
  · exact .inl h
  · refine .inr ⟨ad, rfl, ?_, fun j hj => (World.cell?_of_block (Below.heap_setCell _ _ _ _ (by have h := hne ad rfl; unfold Addr.add; split <;> simpa using h))).trans (hc j hj)⟩
    show _ < (W.heap.modify _ _).size
    rw [Array.size_modify]; exact hlt
theorem results_cell1 {P : Program} {fn : Func} {t : Tmp} {T ty : TypeId} (h : fn.results = #[.cell t T]) {d : TypeDesc} (hu : P.underlying T = some d) (hd : (match d with | .struct _ | .array _ _ => true | _ => false) = true)
    {tmps : Array Value} {g : Nat} {cs : Array Value} {fr : Nat × Nat} (hp : tmps.getD t undef = .pointer (some ⟨g, 0, none⟩)) {w : World} (hg : w.heap[g]? = some (.cells cs ty fr)) (hi : (P.info? T).map (·.size) = some cs.size) :
    (results fn tmps).run P w = .ok (.agg cs) w := by
  have hl := run_loadVar_row (P := P) w g ty T cs fr d hg hu hd hi
  simp only [results, h, Array.mapM_eq_mapM_toList, List.mapM_cons, List.mapM_nil]
  simp [Sem.run_bind, hp, asAddr, hl, Result.andThen]

end Go.Proofs.Ytachkhjbckapoaa

namespace Go.Proofs.Ytachkhjbckapoaa
open Go.RowKit
set_option linter.unusedVariables false
set_option maxRecDepth 100000
set_option linter.unusedSimpArgs false

theorem pow_pos10 (k : Nat) : (0 : Int) < 10 ^ k := Int.pow_pos (by omega)
theorem div_zero10 {n : Int} {k : Nat} (h0 : 0 ≤ n) (h : ¬ 0 < n / 10 ^ k) : n < 10 ^ k := by
  have hp := pow_pos10 k
  rcases Int.lt_or_le n (10 ^ k) with h1 | h1
  · exact h1
  · have := Int.le_ediv_of_mul_le hp (show 1 * 10 ^ k ≤ n by omega)
    omega

theorem mod_pow_succ (n : Int) (w : Nat) : n % 10 ^ (w + 1) = n / 10 ^ w % 10 * 10 ^ w + n % 10 ^ w := by
  have hp := pow_pos10 w
  have h1 := Int.emod_add_mul_ediv n (10 ^ w)
  have h2 := Int.emod_add_mul_ediv (n / 10 ^ w) 10
  have h3 := Int.emod_add_mul_ediv n (10 ^ (w + 1))
  have h4 := div_step n w
  rw [← h4] at h3
  have e : (10 : Int) ^ (w + 1) = 10 * 10 ^ w := by rw [Int.pow_succ]; exact Int.mul_comm _ _
  rw [e] at h3 ⊢
  generalize n / 10 ^ w = q at *
  generalize (10 : Int) ^ w = p at *
  have h5 : p * q = p * (q % 10) + p * (10 * (q / 10)) := by rw [← Int.mul_add, h2]
  have h6 : 10 * p * (q / 10) = p * (10 * (q / 10)) := by rw [Int.mul_comm 10 p, Int.mul_assoc]
  have h7 : q % 10 * p = p * (q % 10) := Int.mul_comm _ _
  omega

theorem get_dg : ∀ (w : Nat) (n acc : Int), getGo (dg w n) acc = (acc * 10 ^ w + n % 10 ^ w, 0)
  | 0, n, acc => by simp [dg, getGo, Int.emod_one]
  | w + 1, n, acc => by
    rw [dg_succ, getGo_cons, if_neg (by omega), get_dg w n]
    rw [mod_pow_succ n w]
    have e : (10 : Int) ^ (w + 1) = 10 * 10 ^ w := by rw [Int.pow_succ]; exact Int.mul_comm _ _
    rw [e, Int.add_mul]
    have : acc * (10 * 10 ^ w) = 10 * acc * 10 ^ w := by rw [← Int.mul_assoc, Int.mul_comm acc 10]
    rw [this]
    congr 1
    omega

theorem dg_get : ∀ (l : List Int) (acc r : Int), (∀ x ∈ l, 0 ≤ x) → getGo l acc = (r, 0) → dg l.length r = l ∧ r / 10 ^ l.length = acc
  | [], acc, r, hb, h => by
    simp only [getGo, Prod.mk.injEq, and_true] at h
    simp [dg, h]
  | d :: l, acc, r, hb, h => by
    rw [getGo_cons] at h
    split at h
    · simp at h
    · rename_i h9
      obtain ⟨h1, h2⟩ := dg_get l (10 * acc + d) r (fun x hx => hb x (List.mem_cons_of_mem _ hx)) h
      have hd := hb d List.mem_cons_self
      rw [List.length_cons, dg_succ, h1, h2, ← div_step, h2]
      exact ⟨by congr 1; omega, by omega⟩

theorem get_fail : ∀ (l : List Int) (acc : Int), (getGo l acc).2 ≠ 0 → (getGo l acc).1 = 0
  | [], acc, h => by simp [getGo] at h
  | d :: l, acc, h => by
    rw [getGo_cons] at h ⊢
    split
    · rfl
    · rename_i h9
      rw [if_neg h9] at h
      exact get_fail l _ h
theorem getR_fail {l : List Int} (h : (getR l).2 ≠ 0) : (getR l).1 = 0 := by
  unfold getR at h ⊢
  split
  · rfl
  · rename_i h18
    rw [if_neg h18] at h
    exact get_fail _ _ h

theorem put_ok {n wd : Int} (h : putE n wd = 0) : ∃ k : Nat, wd = (k : Int) ∧ k ≤ 18 ∧ 0 ≤ n ∧ n < 10 ^ k ∧ putL n wd = dg k n := by
  unfold putE at h
  split at h
  · omega
  · split at h
    · omega
    · rename_i h1 h2
      obtain ⟨k, rfl⟩ := Int.eq_ofNat_of_zero_le (show 0 ≤ wd by omega)
      simp only [Int.toNat_natCast] at h2
      exact ⟨k, rfl, by omega, by omega, div_zero10 (by omega) h2, putL_ok (by omega) (by omega) h2⟩
theorem put_get {n wd : Int} (h : putE n wd = 0) : getR (putL n wd) = (n, 0) ∧ ((putL n wd).length : Int) = wd := by
  obtain ⟨k, rfl, hk, h0, h1, e⟩ := put_ok h
  rw [e, getR_short (by rw [dg_len]; omega), get_dg, dg_len]
  refine ⟨?_, rfl⟩
  rw [Int.emod_eq_of_lt h0 h1]; simp
theorem get_put {l : List Int} (hb : ∀ x ∈ l, 0 ≤ x ∧ x < 256) (h : (getR l).2 = 0) (hl : ¬ 18 < l.length) : putE (getR l).1 l.length = 0 ∧ putL (getR l).1 l.length = l := by
  rw [getR_short hl] at h ⊢
  obtain ⟨r, hr⟩ : ∃ r, getGo l 0 = (r, 0) := ⟨(getGo l 0).1, Prod.ext rfl h⟩
  rw [hr]
  obtain ⟨h1, h2⟩ := dg_get l 0 r (fun x hx => (hb x hx).1) hr
  have hp := pow_pos10 l.length
  have h0 : 0 ≤ r := by
    rcases Int.lt_or_le r 0 with hn | hn
    · have := Int.ediv_neg_of_neg_of_pos hn hp; omega
    · exact hn
  exact ⟨putE_ok h0 (by omega) (by rw [h2]; omega), by rw [putL_ok h0 (by omega) (by rw [h2]; omega)]; exact h1⟩
theorem getR_len {l : List Int} (h : (getR l).2 = 0) : ¬ 18 < l.length := fun k => by rw [getR_long k] at h; simp at h

/-- Joined, and split. -/
theorem join_split : ∀ (vs ws acc acc2 : List Int) (s : Int), vs.length = ws.length → (joinGo vs ws acc).2 = 0 →
    ∃ b, joinGo vs ws acc = (acc ++ b, 0) ∧ sumGo ws s = some (s + b.length) ∧ splitGo b ws acc2 = (acc2 ++ vs, 0)
  | [], [], acc, acc2, s, _, _ => ⟨[], by simp [joinGo], by simp [sumGo], by simp [splitGo]⟩
  | [], _ :: _, _, _, _, h, _ => by simp at h
  | _ :: _, [], _, _, _, h, _ => by simp at h
  | v :: vs, x :: ws, acc, acc2, s, hl, h => by
    rw [joinGo_cons] at h ⊢
    by_cases hp : putE v x = 0
    · rw [if_neg (by simp [hp])] at h ⊢
      obtain ⟨hg, hx⟩ := put_get hp
      obtain ⟨k, rfl, hk, _, _, _⟩ := put_ok hp
      obtain ⟨b, e1, e2, e3⟩ := join_split vs ws (acc ++ putL v k) (acc2 ++ [v]) (s + k) (by simpa using hl) h
      have hlen : (putL v k).length = k := by omega
      refine ⟨putL v k ++ b, by rw [e1, List.append_assoc], ?_, ?_⟩
      · rw [sumGo_cons, if_neg (by omega), e2]; congr 1; rw [List.length_append]; omega
      · rw [splitGo_cons, Int.toNat_natCast, List.take_append_of_le_length (by omega), List.take_of_length_le (by omega), hg, if_neg (by simp), List.drop_append_of_le_length (by omega), List.drop_of_length_le (by omega), List.nil_append, e3, List.append_assoc]; rfl
    · rw [if_pos hp] at h; exact absurd h hp
theorem splitR_join {vs ws : List Int} (h : (joinR vs ws).2 = 0) : splitR (joinR vs ws).1 ws = (vs, 0) := by
  by_cases ha : vs.length ≠ ws.length ∨ 20 < vs.length
  · rw [joinR_arg ha] at h; simp at h
  · rw [joinR_go (by omega) (by omega)] at h ⊢
    obtain ⟨b, e1, e2, e3⟩ := join_split vs ws [] [] 0 (by omega) h
    rw [e1, splitR_go (by omega) e2 (by simp)]
    simpa using e3

/-- Split, and joined. -/
theorem split_join : ∀ (ws l acc acc2 : List Int) (s : Int), (∀ x ∈ l, 0 ≤ x ∧ x < 256) → sumGo ws s = some (s + l.length) → (splitGo l ws acc).2 = 0 →
    ∃ vs, splitGo l ws acc = (acc ++ vs, 0) ∧ vs.length = ws.length ∧ joinGo vs ws acc2 = (acc2 ++ l, 0)
  | [], l, acc, acc2, s, hb, hs, h => by
    simp only [sumGo, Option.some.injEq] at hs
    obtain rfl : l = [] := List.length_eq_zero_iff.1 (by omega)
    exact ⟨[], by simp [splitGo], rfl, by simp [joinGo]⟩
  | x :: ws, l, acc, acc2, s, hb, hs, h => by
    rw [sumGo_cons] at hs
    split at hs
    · cases hs
    · rename_i hx
      obtain ⟨k, rfl⟩ := Int.eq_ofNat_of_zero_le (show 0 ≤ x by omega)
      have hle := sumGo_le _ _ _ hs
      rw [splitGo_cons, Int.toNat_natCast] at h ⊢
      by_cases hg : (getR (l.take k)).2 = 0
      · rw [if_neg (by simp [hg])] at h ⊢
        obtain ⟨p1, p2⟩ := get_put (fun z hz => hb z (List.mem_of_mem_take hz)) hg (getR_len hg)
        have hlk : (l.take k).length = k := by rw [List.length_take]; omega
        rw [hlk] at p1 p2
        obtain ⟨vs, e1, e2, e3⟩ := split_join ws (l.drop k) (acc ++ [(getR (l.take k)).1]) (acc2 ++ l.take k) (s + k) (fun z hz => hb z (List.mem_of_mem_drop hz)) (by rw [hs]; congr 1; rw [List.length_drop]; omega) h
        refine ⟨(getR (l.take k)).1 :: vs, by rw [e1, List.append_assoc]; rfl, by simp [e2], ?_⟩
        rw [joinGo_cons, if_neg (by simp [p1]), p2, e3, List.append_assoc, List.take_append_drop]
      · rw [if_pos hg] at h; exact absurd h hg
theorem joinR_split {l ws : List Int} (hb : ∀ x ∈ l, 0 ≤ x ∧ x < 256) (h : (splitR l ws).2 = 0) : joinR (splitR l ws).1 ws = (l, 0) := by
  by_cases h20 : 20 < ws.length
  · rw [splitR_many h20] at h; simp at h
  cases hs : sumGo ws 0 with
  | none => rw [splitR_bad h20 hs] at h; simp at h
  | some s =>
    by_cases hn : s = l.length
    · rw [splitR_go h20 hs hn] at h ⊢
      obtain ⟨vs, e1, e2, e3⟩ := split_join ws l [] [] 0 hb (by rw [hs, hn]; simp) h
      rw [e1, List.nil_append, joinR_go e2 (by omega), e3]; rfl
    · rw [splitR_len h20 hs hn] at h; simp at h
theorem splitGo_fail : ∀ (ws l acc : List Int), (splitGo l ws acc).2 ≠ 0 → (splitGo l ws acc).1 = []
  | [], l, acc, h => by simp [splitGo] at h
  | x :: ws, l, acc, h => by
    rw [splitGo_cons] at h ⊢
    split
    · rfl
    · rename_i hg
      rw [if_neg hg] at h
      exact splitGo_fail ws _ _ h
theorem splitR_fail {l ws : List Int} (h : (splitR l ws).2 ≠ 0) : (splitR l ws).1 = [] := by
  unfold splitR at h ⊢
  split
  · rfl
  · rename_i h20
    rw [if_neg h20] at h
    split
    · rfl
    · rename_i s hs
      rw [hs] at h
      simp only at h
      split
      · rfl
      · rename_i hn
        rw [if_neg hn] at h
        exact splitGo_fail _ _ _ h

/-- The first place at which two rows differ: whether the left one is the lesser. -/
def cmpL : List Int → List Int → Option Bool
  | x :: l, y :: m => if x = y then cmpL l m else some (decide (x < y))
  | _, _ => none
theorem cmpL_cons (x y : Int) (l m : List Int) : cmpL (x :: l) (y :: m) = if x = y then cmpL l m else some (decide (x < y)) := rfl
theorem cmpL_nil (m : List Int) : cmpL [] m = none := by cases m <;> rfl
theorem cmp_dg : ∀ (w : Nat) (m n : Int), cmpL (dg w m) (dg w n) = if m % 10 ^ w = n % 10 ^ w then none else some (decide (m % 10 ^ w < n % 10 ^ w))
  | 0, m, n => by simp [dg, cmpL, Int.emod_one]
  | w + 1, m, n => by
    rw [dg_succ, dg_succ, cmpL_cons, cmp_dg w m n, mod_pow_succ m w, mod_pow_succ n w]
    have hp := pow_pos10 w
    have a1 := Int.emod_nonneg m (show (10 : Int) ^ w ≠ 0 by omega)
    have a2 := Int.emod_lt_of_pos m hp
    have b1 := Int.emod_nonneg n (show (10 : Int) ^ w ≠ 0 by omega)
    have b2 := Int.emod_lt_of_pos n hp
    generalize m / 10 ^ w % 10 = x
    generalize n / 10 ^ w % 10 = y
    generalize m % 10 ^ w = u at *
    generalize n % 10 ^ w = v at *
    generalize (10 : Int) ^ w = p at *
    by_cases hxy : x = y
    · subst hxy
      rw [if_pos rfl]
      generalize x * p = z
      by_cases huv : u = v
      · rw [if_pos huv, if_pos (by omega)]
      · rw [if_neg huv, if_neg (by omega)]
        congr 1
        exact decide_eq_decide.2 (by omega)
    · rw [if_neg hxy]
      have key : (x < y → x * p + u < y * p + v) ∧ (y < x → y * p + v < x * p + u) := by
        refine ⟨fun h => ?_, fun h => ?_⟩
        · have := Int.mul_le_mul_of_nonneg_right (show x + 1 ≤ y by omega) (show 0 ≤ p by omega)
          rw [Int.add_mul] at this; omega
        · have := Int.mul_le_mul_of_nonneg_right (show y + 1 ≤ x by omega) (show 0 ≤ p by omega)
          rw [Int.add_mul] at this; omega
      rw [if_neg (by omega)]
      congr 1
      exact decide_eq_decide.2 (by omega)
theorem cmp_put {m n wd : Int} (h : putE m wd = 0) (k : putE n wd = 0) : cmpL (putL m wd) (putL n wd) = if m = n then none else some (decide (m < n)) := by
  obtain ⟨i, rfl, _, h0, h1, e⟩ := put_ok h
  obtain ⟨j, hj, _, k0, k1, e'⟩ := put_ok k
  obtain rfl : i = j := by omega
  rw [e, e', cmp_dg, Int.emod_eq_of_lt h0 h1, Int.emod_eq_of_lt k0 k1]
end Go.Proofs.Ytachkhjbckapoaa

namespace Go.Proofs.Ytachkhjbckapoaa
open Go.RowKit
set_option linter.unusedVariables false
set_option maxRecDepth 100000
set_option linter.unusedSimpArgs false

theorem le15 {a0 a1 a2 a3 a4 a5 a6 a7 a8 a9 a10 a11 a12 a13 a14 m : Int} (h0 : a0 ≤ m) (h1 : a1 ≤ m) (h2 : a2 ≤ m) (h3 : a3 ≤ m) (h4 : a4 ≤ m) (h5 : a5 ≤ m) (h6 : a6 ≤ m) (h7 : a7 ≤ m) (h8 : a8 ≤ m) (h9 : a9 ≤ m) (h10 : a10 ≤ m) (h11 : a11 ≤ m) (h12 : a12 ≤ m) (h13 : a13 ≤ m) (h14 : a14 ≤ m) : ∀ x ∈ [a0, a1, a2, a3, a4, a5, a6, a7, a8, a9, a10, a11, a12, a13, a14], x ≤ m := by
  intro x hx
  simp only [List.mem_cons, List.not_mem_nil, or_false] at hx
  rcases hx with rfl | rfl | rfl | rfl | rfl | rfl | rfl | rfl | rfl | rfl | rfl | rfl | rfl | rfl | rfl <;> assumption

theorem layG_15 (l : List Int) : ∃ c0 c1 c2 c3 c4 c5 c6 c7 c8 c9 c10 c11 c12 c13 c14, (layG l).1 = [c0, c1, c2, c3, c4, c5, c6, c7, c8, c9, c10, c11, c12, c13, c14] := by
  cases l with
  | nil => exact ⟨_, _, _, _, _, _, _, _, _, _, _, _, _, _, _, rfl⟩
  | cons d l' =>
    rw [layG_cons]
    split
    · exact ⟨_, _, _, _, _, _, _, _, _, _, _, _, _, _, _, rfl⟩
    split
    · exact ⟨_, _, _, _, _, _, _, _, _, _, _, _, _, _, _, rfl⟩
    split
    · exact ⟨_, _, _, _, _, _, _, _, _, _, _, _, _, _, _, rfl⟩
    split
    · exact cellsOf_15 _ _
    · exact ⟨_, _, _, _, _, _, _, _, _, _, _, _, _, _, _, rfl⟩
theorem layG_fail {l : List Int} (h : (layG l).2 ≠ 0) : (layG l).1 = zeroC := by
  cases l with
  | nil => rfl
  | cons d l' =>
    rw [layG_cons] at h ⊢
    split
    · rfl
    split
    · rfl
    split
    · rfl
    split
    · rename_i h1 h2 h3 h4
      rw [if_neg h1, if_neg h2, if_neg h3, if_pos h4] at h
      exact absurd rfl h
    · rfl

theorem joinGo_ok : ∀ (vs ws acc : List Int), vs.length = ws.length → (joinGo vs ws acc).2 = 0 → joinGo vs ws acc = (acc ++ (List.zipWith putL vs ws).flatten, 0) ∧ ∀ i, i < ws.length → putE (vs.getD i 0) (ws.getD i 0) = 0
  | [], [], acc, _, _ => ⟨by simp [joinGo], fun i hi => by simp at hi⟩
  | [], _ :: _, _, h, _ => by simp at h
  | _ :: _, [], _, h, _ => by simp at h
  | v :: vs, x :: ws, acc, hl, h => by
    rw [joinGo_cons] at h ⊢
    by_cases hp : putE v x = 0
    · rw [if_neg (by simp [hp])] at h ⊢
      obtain ⟨e1, e2⟩ := joinGo_ok vs ws (acc ++ putL v x) (by simpa using hl) h
      refine ⟨by rw [e1]; simp, fun i hi => ?_⟩
      cases i with
      | zero => exact hp
      | succ i => exact e2 i (by simpa using hi)
    · rw [if_pos hp] at h; exact absurd h hp
theorem joinR_ok {vs ws l : List Int} (h : joinR vs ws = (l, 0)) : l = (List.zipWith putL vs ws).flatten ∧ vs.length = ws.length ∧ ∀ i, i < ws.length → putE (vs.getD i 0) (ws.getD i 0) = 0 := by
  by_cases ha : vs.length ≠ ws.length ∨ 20 < vs.length
  · rw [joinR_arg ha] at h; simp at h
  · rw [joinR_go (by omega) (by omega)] at h
    obtain ⟨e1, e2⟩ := joinGo_ok vs ws [] (by omega) (by rw [h])
    rw [h] at e1
    exact ⟨by simpa using congrArg Prod.fst e1, by omega, e2⟩
theorem joinR_sum {vs ws l : List Int} (h : joinR vs ws = (l, 0)) : sumGo ws 0 = some (l.length : Int) := by
  by_cases ha : vs.length ≠ ws.length ∨ 20 < vs.length
  · rw [joinR_arg ha] at h; simp at h
  · rw [joinR_go (by omega) (by omega)] at h
    obtain ⟨b, e1, e2, _⟩ := join_split vs ws [] [] 0 (by omega) (by rw [h])
    rw [h] at e1
    have : l = b := by simpa using congrArg Prod.fst e1
    rw [this]; simpa using e2

theorem splitR_nil {k : Int} (h1 : ¬ k < 1) (h4 : ¬ 4 < k) : (splitR [] (wsL k)).2 ≠ 0 := by
  obtain rfl | rfl | rfl | rfl : k = 1 ∨ k = 2 ∨ k = 3 ∨ k = 4 := by omega
  all_goals decide
theorem splitR_first {d : Int} {l ws : List Int} (h : (splitR (d :: l) (1 :: ws)).2 = 0) : ¬ 9 < d := by
  intro h9
  unfold splitR at h
  split at h
  · simp at h
  · split at h
    · simp at h
    · split at h
      · simp at h
      · have hg : getR [d] = (0, 7) := by rw [getR_short (by simp), getGo_cons, if_pos h9]
        rw [splitGo_cons] at h
        simp only [Int.toNat_one, List.take_succ_cons, List.take_zero, hg] at h
        simp at h

theorem cellsOf_layV {a0 a1 a2 a3 a4 a5 a6 a7 a8 a9 a10 a11 a12 a13 a14 : Int} (h1 : ¬ a1 < 1) (h4 : ¬ 4 < a1) (hu : usesB a1 a9 = true) (h6 : a6 = 0) (h14 : a14 = 0) : cellsOf a1 (layV a1 [a0, a1, a2, a3, a4, a5, a6, a7, a8, a9, a10, a11, a12, a13, a14]) = [a0, a1, a2, a3, a4, a5, a6, a7, a8, a9, a10, a11, a12, a13, a14] := by
  subst h6 h14
  obtain rfl | rfl | rfl | rfl : a1 = 1 ∨ a1 = 2 ∨ a1 = 3 ∨ a1 = 4 := by omega
  · obtain rfl : a9 = 1 := by simpa [usesB] using hu
    rfl
  · obtain rfl : a9 = 2 := by simpa [usesB] using hu
    rfl
  · obtain rfl : a9 = 0 := by simpa [usesB] using hu
    rfl
  · rfl

theorem putE_lt {v : Int} {k : Nat} (h : putE v k = 0) : 0 ≤ v ∧ v < 10 ^ k := by
  obtain ⟨n, e, _, h0, h1, _⟩ := put_ok h
  obtain rfl : k = n := by omega
  exact ⟨h0, h1⟩

theorem lay_put_fin {d a0 a1 a2 a3 a4 a5 a6 a7 a8 a9 a10 a11 a12 a13 a14 : Int} {t l : List Int} (h1 : ¬ d < 1) (h4 : ¬ 4 < d) (hc : cellsOf d (d :: t) = [a0, a1, a2, a3, a4, a5, a6, a7, a8, a9, a10, a11, a12, a13, a14]) (hvl : (d :: t).length = (wsL d).length) (hj : joinR (d :: t) (wsL d) = (l, 0))
    (hp : ∀ i, i < (wsL d).length → putE ((d :: t).getD i 0) ((wsL d).getD i 0) = 0) (hT : tkB a0 a1 a2 a3 a4 a5 a6 a7 a8 a9 a10 = true) (hS : suB a9 a12 a13 = true) : layR (tkB a0 a1 a2 a3 a4 a5 a6 a7 a8 a9 a10) [a0, a1, a2, a3, a4, a5, a6, a7, a8, a9, a10, a11, a12, a13, a14] = (l, 0) := by
  rw [hT]
  obtain rfl | h1' : d = 1 ∨ d ≠ 1 := by omega
  · rcases t with _ | ⟨v1, _ | ⟨v2, _ | ⟨v3, _ | ⟨v4, _ | ⟨v5, _ | ⟨v6, _ | ⟨v7, _ | ⟨v8, _ | ⟨v9, _ | ⟨v10, _ | ⟨v11, _ | ⟨v12, t2⟩⟩⟩⟩⟩⟩⟩⟩⟩⟩⟩⟩ <;> simp [wsL] at hvl
    have p1 := putE_lt (k := 7) (hp 1 (by decide))
    have p2 := putE_lt (k := 2) (hp 11 (by decide))
    simp only [List.getD_cons_zero, List.getD_cons_succ] at p1 p2
    simp only [cellsOf, List.getD_cons_zero, List.getD_cons_succ] at hc
    simp at hc
    obtain ⟨rfl, rfl, rfl, rfl, rfl, rfl, rfl, rfl, rfl, rfl, rfl, rfl, rfl, rfl, rfl⟩ := hc
    unfold layR
    rw [if_neg (by simp only [List.getD_cons_zero, List.getD_cons_succ]; simp [hS]; omega), if_neg (by simp only [List.getD_cons_zero, List.getD_cons_succ]; omega)]
    exact hj
  obtain rfl | h2' : d = 2 ∨ d ≠ 2 := by omega
  · rcases t with _ | ⟨v1, _ | ⟨v2, _ | ⟨v3, _ | ⟨v4, _ | ⟨v5, _ | ⟨v6, _ | ⟨v7, _ | ⟨v8, _ | ⟨v9, _ | ⟨v10, _ | ⟨v11, _ | ⟨v12, t2⟩⟩⟩⟩⟩⟩⟩⟩⟩⟩⟩⟩ <;> simp [wsL] at hvl
    have p1 := putE_lt (k := 7) (hp 1 (by decide))
    have p2 := putE_lt (k := 2) (hp 11 (by decide))
    simp only [List.getD_cons_zero, List.getD_cons_succ] at p1 p2
    simp only [cellsOf, List.getD_cons_zero, List.getD_cons_succ] at hc
    simp at hc
    obtain ⟨rfl, rfl, rfl, rfl, rfl, rfl, rfl, rfl, rfl, rfl, rfl, rfl, rfl, rfl, rfl⟩ := hc
    unfold layR
    rw [if_neg (by simp only [List.getD_cons_zero, List.getD_cons_succ]; simp [hS]; omega), if_neg (by simp only [List.getD_cons_zero, List.getD_cons_succ]; omega)]
    exact hj
  obtain rfl | h3' : d = 3 ∨ d ≠ 3 := by omega
  · rcases t with _ | ⟨v1, _ | ⟨v2, _ | ⟨v3, _ | ⟨v4, _ | ⟨v5, _ | ⟨v6, _ | ⟨v7, _ | ⟨v8, _ | ⟨v9, _ | ⟨v10, _ | ⟨v11, _ | ⟨v12, t2⟩⟩⟩⟩⟩⟩⟩⟩⟩⟩⟩⟩ <;> simp [wsL] at hvl
    have p1 := putE_lt (k := 7) (hp 1 (by decide))
    have p2 := putE_lt (k := 2) (hp 11 (by decide))
    simp only [List.getD_cons_zero, List.getD_cons_succ] at p1 p2
    simp only [cellsOf, List.getD_cons_zero, List.getD_cons_succ] at hc
    simp at hc
    obtain ⟨rfl, rfl, rfl, rfl, rfl, rfl, rfl, rfl, rfl, rfl, rfl, rfl, rfl, rfl, rfl⟩ := hc
    unfold layR
    rw [if_neg (by simp only [List.getD_cons_zero, List.getD_cons_succ]; simp [hS]; omega), if_neg (by simp only [List.getD_cons_zero, List.getD_cons_succ]; omega)]
    exact hj
  obtain rfl : d = 4 := by omega
  rcases t with _ | ⟨v1, _ | ⟨v2, _ | ⟨v3, _ | ⟨v4, _ | ⟨v5, _ | ⟨v6, _ | ⟨v7, _ | ⟨v8, _ | ⟨v9, _ | ⟨v10, _ | ⟨v11, _ | ⟨v12, _ | ⟨v13, t2⟩⟩⟩⟩⟩⟩⟩⟩⟩⟩⟩⟩⟩ <;> simp [wsL] at hvl
  have p1 := putE_lt (k := 7) (hp 1 (by decide))
  have p2 := putE_lt (k := 2) (hp 12 (by decide))
  simp only [List.getD_cons_zero, List.getD_cons_succ] at p1 p2
  simp only [cellsOf, List.getD_cons_zero, List.getD_cons_succ] at hc
  simp at hc
  obtain ⟨rfl, rfl, rfl, rfl, rfl, rfl, rfl, rfl, rfl, rfl, rfl, rfl, rfl, rfl, rfl⟩ := hc
  unfold layR
  rw [if_neg (by simp only [List.getD_cons_zero, List.getD_cons_succ]; simp [hS]; omega), if_neg (by simp only [List.getD_cons_zero, List.getD_cons_succ]; omega)]
  exact hj

/-- What layR tells of a reading that is put. -/
theorem layR_ok {a0 a1 a2 a3 a4 a5 a6 a7 a8 a9 a10 a11 a12 a13 a14 : Int} {l : List Int} (h : layR (tkB a0 a1 a2 a3 a4 a5 a6 a7 a8 a9 a10) [a0, a1, a2, a3, a4, a5, a6, a7, a8, a9, a10, a11, a12, a13, a14] = (l, 0)) :
    tkB a0 a1 a2 a3 a4 a5 a6 a7 a8 a9 a10 = true ∧ suB a9 a12 a13 = true ∧ 0 ≤ a11 ∧ a11 < 100 ∧ a14 = 0 ∧ a6 = 0 ∧ a0 ≤ 9999999 ∧ joinR (layV a1 [a0, a1, a2, a3, a4, a5, a6, a7, a8, a9, a10, a11, a12, a13, a14]) (wsL a1) = (l, 0) ∧ ¬ a1 < 1 ∧ ¬ 4 < a1 ∧ usesB a1 a9 = true := by
  unfold layR at h
  split at h
  · simp at h
  rename_i n1
  split at h
  · simp at h
  rename_i n2
  simp only [List.getD_cons_zero, List.getD_cons_succ] at n1 n2 h
  have hT : tkB a0 a1 a2 a3 a4 a5 a6 a7 a8 a9 a10 = true := by cases hq : tkB a0 a1 a2 a3 a4 a5 a6 a7 a8 a9 a10 with
    | true => rfl
    | false => exact absurd (.inl hq) n1
  have hS : suB a9 a12 a13 = true := by cases hq : suB a9 a12 a13 with
    | true => rfl
    | false => exact absurd (.inr (.inl hq)) n1
  have hu : usesB a1 a9 = true := by
    have h := hT; unfold tkB at h; simp only [Bool.and_eq_true] at h; exact h.2
  refine ⟨hT, hS, by omega, by omega, by omega, by omega, by omega, h, (tk_kind hT).1, (tk_kind hT).2, hu⟩

theorem lay_get {a0 a1 a2 a3 a4 a5 a6 a7 a8 a9 a10 a11 a12 a13 a14 : Int} {l : List Int} (h : layR (tkB a0 a1 a2 a3 a4 a5 a6 a7 a8 a9 a10) [a0, a1, a2, a3, a4, a5, a6, a7, a8, a9, a10, a11, a12, a13, a14] = (l, 0)) : layG l = ([a0, a1, a2, a3, a4, a5, a6, a7, a8, a9, a10, a11, a12, a13, a14], 0) := by
  obtain ⟨hT, hS, _, _, h14, h6, _, hj, hk1, hk4, hu⟩ := layR_ok h
  have hs := splitR_join (vs := layV a1 [a0, a1, a2, a3, a4, a5, a6, a7, a8, a9, a10, a11, a12, a13, a14]) (ws := wsL a1) (by rw [hj])
  rw [hj] at hs
  simp only at hs
  have hcs := cellsOf_layV hk1 hk4 hu h6 h14 (a0 := a0) (a2 := a2) (a3 := a3) (a4 := a4) (a5 := a5) (a7 := a7) (a8 := a8) (a10 := a10) (a11 := a11) (a12 := a12) (a13 := a13)
  cases l with
  | nil => exact absurd (by rw [hs]) (splitR_nil hk1 hk4)
  | cons d l' =>
    obtain ⟨ws, hws⟩ := wsL_head hk1 hk4
    have h9 : ¬ 9 < d := splitR_first (l := l') (ws := ws) (by rw [← hws, hs])
    obtain ⟨t, ht⟩ := splitR_head (l := l') (ws := ws) h9 (by rw [← hws, hs])
    rw [← hws, hs] at ht
    have hd : d = a1 := by
      have h0 : (layV a1 [a0, a1, a2, a3, a4, a5, a6, a7, a8, a9, a10, a11, a12, a13, a14]).head? = some a1 := by simp [layV, fl]
      simp only at ht
      rw [ht] at h0
      simpa using h0
    subst hd
    rw [layG_cons, if_neg h9, if_neg (by unfold wsE; rw [if_neg (by omega)]; simp), hs]
    simp only [ne_eq, not_true_eq_false, if_false]
    rw [hcs, if_pos (by unfold okC; simp only [List.getD_cons_zero, List.getD_cons_succ]; rw [hT, hS]; rfl)]

theorem lay_put {a0 a1 a2 a3 a4 a5 a6 a7 a8 a9 a10 a11 a12 a13 a14 : Int} {l : List Int} (hb : ∀ x ∈ l, 0 ≤ x ∧ x < 256) (h : layG l = ([a0, a1, a2, a3, a4, a5, a6, a7, a8, a9, a10, a11, a12, a13, a14], 0)) :
    layR (tkB a0 a1 a2 a3 a4 a5 a6 a7 a8 a9 a10) [a0, a1, a2, a3, a4, a5, a6, a7, a8, a9, a10, a11, a12, a13, a14] = (l, 0) ∧ tkB a0 a1 a2 a3 a4 a5 a6 a7 a8 a9 a10 = true ∧ suB a9 a12 a13 = true := by
  cases l with
  | nil => simp [layG] at h
  | cons d l' =>
    rw [layG_cons] at h
    split at h
    · simp at h
    rename_i h9
    split at h
    · rename_i h8; exact absurd (by simpa using congrArg Prod.snd h) h8
    rename_i h8
    split at h
    · rename_i h7; exact absurd (by simpa using congrArg Prod.snd h) h7
    rename_i h7
    split at h
    rotate_left
    · simp at h
    rename_i hok
    have hc : cellsOf d (splitR (d :: l') (wsL d)).1 = [a0, a1, a2, a3, a4, a5, a6, a7, a8, a9, a10, a11, a12, a13, a14] := congrArg Prod.fst h
    have hk := wsE_kind (show wsE d = 0 by simpa using h8)
    have h7' : (splitR (d :: l') (wsL d)).2 = 0 := by simpa using h7
    rw [hc] at hok
    have hok2 : tkB a0 a1 a2 a3 a4 a5 a6 a7 a8 a9 a10 = true ∧ suB a9 a12 a13 = true := by simpa [okC] using hok
    refine ⟨?_, hok2⟩
    have hvl := splitR_vlen h7'
    have hj := joinR_split hb h7'
    obtain ⟨ws, hws⟩ := wsL_head hk.1 hk.2
    obtain ⟨t, ht⟩ := splitR_head (l := l') (ws := ws) h9 (by rw [← hws]; exact h7')
    rw [← hws] at ht
    rw [ht] at hc hvl hj
    obtain ⟨_, _, hp⟩ := joinR_ok hj
    exact lay_put_fin hk.1 hk.2 hc hvl hj hp hok2.1 hok2.2

theorem putL_byte' (n wd : Int) : ∀ x ∈ putL n wd, 0 ≤ x ∧ x < 256 := by
  intro x hx
  unfold putL at hx
  split at hx
  · simp at hx
  · have := dg_byte _ _ x hx; omega
theorem joinGo_byte' : ∀ (l m acc : List Int), (∀ x ∈ acc, 0 ≤ x ∧ x < 256) → ∀ x ∈ (joinGo l m acc).1, 0 ≤ x ∧ x < 256
  | [], m, acc, h => by simpa [joinGo] using h
  | v :: l, [], acc, h => by simpa [joinGo] using h
  | v :: l, x :: m, acc, h => by
    rw [joinGo_cons]
    split
    · simp
    · refine joinGo_byte' l m _ fun y hy => ?_
      rcases List.mem_append.1 hy with k | k
      · exact h y k
      · exact putL_byte' v x y k
theorem joinR_byte' (l m : List Int) : ∀ x ∈ (joinR l m).1, 0 ≤ x ∧ x < 256 := by
  by_cases h : l.length ≠ m.length ∨ 20 < l.length
  · rw [joinR_arg h]; simp
  · rw [joinR_go (by omega) (by omega)]; exact joinGo_byte' l m [] (by simp)
theorem layR_byte {a0 a1 a2 a3 a4 a5 a6 a7 a8 a9 a10 a11 a12 a13 a14 : Int} {l : List Int} {e : Int} {T : Bool} (h : layR T [a0, a1, a2, a3, a4, a5, a6, a7, a8, a9, a10, a11, a12, a13, a14] = (l, e)) : ∀ x ∈ l, 0 ≤ x ∧ x < 256 := by
  unfold layR at h
  split at h
  · simp only [Prod.mk.injEq] at h; rw [← h.1]; simp
  split at h
  · simp only [Prod.mk.injEq] at h; rw [← h.1]; simp
  · have := joinR_byte' (layV ([a0, a1, a2, a3, a4, a5, a6, a7, a8, a9, a10, a11, a12, a13, a14].getD 1 0) [a0, a1, a2, a3, a4, a5, a6, a7, a8, a9, a10, a11, a12, a13, a14]) (wsL ([a0, a1, a2, a3, a4, a5, a6, a7, a8, a9, a10, a11, a12, a13, a14].getD 1 0))
    rw [h] at this; exact this

theorem lay_le {a0 a1 a2 a3 a4 a5 a6 a7 a8 a9 a10 a11 a12 a13 a14 : Int} {l : List Int} (h : layR (tkB a0 a1 a2 a3 a4 a5 a6 a7 a8 a9 a10) [a0, a1, a2, a3, a4, a5, a6, a7, a8, a9, a10, a11, a12, a13, a14] = (l, 0)) : ∀ x ∈ [a0, a1, a2, a3, a4, a5, a6, a7, a8, a9, a10, a11, a12, a13, a14], x ≤ 9223372036854775807 := by
  obtain ⟨hT, hS, hk0, hk9, h14, h6, h0, hj, hk1, hk4, hu⟩ := layR_ok h
  obtain ⟨_, hl, hp⟩ := joinR_ok hj
  have hall : ∀ v ∈ layV a1 [a0, a1, a2, a3, a4, a5, a6, a7, a8, a9, a10, a11, a12, a13, a14], v ≤ 9223372036854775807 := by
    intro v hm
    obtain ⟨i, hi, rfl⟩ := List.getElem_of_mem hm
    have := hp i (by omega)
    rw [List.getD_eq_getElem?_getD, List.getElem?_eq_getElem hi, Option.getD_some] at this
    obtain ⟨k, _, hk, h0, h1, _⟩ := put_ok this
    have h18 : (10 : Nat) ^ k ≤ 10 ^ 18 := Nat.pow_le_pow_right (by omega) hk
    have e : ((10 ^ k : Nat) : Int) = (10 : Int) ^ k := by simp
    rw [← e] at h1
    omega
  have h9 : a9 ≤ 9223372036854775807 := by
    obtain rfl | rfl | rfl | rfl : a1 = 1 ∨ a1 = 2 ∨ a1 = 3 ∨ a1 = 4 := by omega
    · have : a9 = 1 := by simpa [usesB] using hu
      omega
    · have : a9 = 2 := by simpa [usesB] using hu
      omega
    · have : a9 = 0 := by simpa [usesB] using hu
      omega
    · exact hall a9 (by simp [layV, fl])
  have h23 : a2 ≤ 9223372036854775807 ∧ a3 ≤ 9223372036854775807 := by
    obtain rfl | rfl | rfl | rfl : a1 = 1 ∨ a1 = 2 ∨ a1 = 3 ∨ a1 = 4 := by omega
    all_goals exact ⟨hall a2 (by simp [layV, fl]), hall a3 (by simp [layV, fl])⟩
  exact le15 (by omega) (by omega) h23.1 h23.2 (hall a4 (by simp [layV, fl])) (hall a5 (by simp [layV, fl])) (by omega) (hall a7 (by simp [layV, fl])) (hall a8 (by simp [layV, fl])) h9 (hall a10 (by simp [layV, fl])) (by omega) (hall a12 (by simp [layV, fl])) (hall a13 (by simp [layV, fl])) (by omega)

theorem cap_row {k : IntKind} {w : World} {a : Option Addr} {len cap : Nat} {zs : List Int} (h : IsRow k w a len cap zs) : len ≤ cap ∧ cap ≤ 9223372036854775807 := by
  rcases h with ⟨rfl, rfl, rfl, rfl⟩ | ⟨x, rfl, hl, hm, hz, hc, hw⟩
  · exact ⟨Nat.le_refl _, by omega⟩
  · unfold maxLen at hm; exact ⟨hl, by omega⟩
end Go.Proofs.Ytachkhjbckapoaa

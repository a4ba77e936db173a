/- Words on arrays: built, stored and loaded whole, read at an index. Digits as a number: what bcd.Get and its reference compute, for every row of bytes. Layer 1: bytes as words and back, by the program. Condition: lengths in bounds, a multiple of four. Layer 1, the reference: bytes as words and back. Condition: lengths in bounds. Layer 2, the reference: its constants. Layer 2, the reference: its first values. No condition. -/
import Derived.Test.YtachkhjbckapoaaT00
import Derived.Laws.CopyOwn
import Derived.Laws.Tables
import Derived.StillTailTactics
import Derived.Deep.QuietTactic
import Derived.BigQuiet
import Derived.Deep.RegionWith
import Derived.Deep.RegionHeld3
import Derived.Deep.RegionLaw
import Derived.LoopTactic
import Derived.IntWalk
namespace Go.Proofs.Ytachkhjbckapoaa
open Go.RowKit
set_option linter.unusedVariables false
set_option maxRecDepth 100000
set_option linter.unusedSimpArgs false

theorem infoB8 : (Try.prog.info? 5).map (fun i => (i.zero, i.size, i.bytes)) = some (some (.int .u8 0), 1, 1) := by kernel_rfl
theorem wpL_build {P : Program} {ops : Array Oper} {rest : List Oper} {o : Oper} {a : Act} {w : World} {Q : Exit → Act → World → Prop} (hg : o.guard = none) (t : TypeId) (parts : Array (Nat × Operand)) (ho : o.op = .build t parts)
    (C : Array Value) (hC : P.built t (parts.map fun (i, x) => (i, a.eval x)).toList = some C)
    (h : wpList P ops Q rest (a.put o.dst (.agg C)) w) : wpList P ops Q (o :: rest) a w :=
  wpList_build hg t parts ho (by rw [hC]; rfl) (by rw [hC]; exact h)
/-- A block that was just made. -/
theorem new_block (w : World) (o : Obj) : ∃ w1, w.alloc o = w1 ∧ w1.heap[w.heap.size]? = some o ∧ Below w.heap.size w w1 ∧ w1.heap.size = w.heap.size + 1 :=
  ⟨_, rfl, heap_alloc_new w o, bel1 w o, by simp⟩
theorem setRow_below {W w : World} {n g : Nat} {cs : Array Value} (h : Below n W w) (hg : n ≤ g) : Below n W (w.setRow g cs) := below_setRow h hg _
/-- Words, as they lie in a row. -/
def wv (l : List Nat) : List Value := l.map (fun n : Nat => Value.int .u32 (n : Int))
def bv (l : List Int) : List Value := l.map (Value.int .u8)
theorem wv_len (l : List Nat) : (wv l).length = l.length := by simp [wv]
theorem bv_len (l : List Int) : (bv l).length = l.length := by simp [bv]
theorem wv_one (l : List Nat) : ∀ v ∈ wv l, v.oneCell' = true := by
  intro v hv
  obtain ⟨n, _, rfl⟩ := List.mem_map.1 hv
  rfl
theorem bv_one (l : List Int) : ∀ v ∈ bv l, v.oneCell' = true := one_ints .u8 l
theorem all_one {l : List Value} (h : ∀ v ∈ l, v.oneCell' = true) : l.toArray.all (·.oneCell') = true := by
  rw [List.all_toArray, List.all_eq_true]; exact h
theorem wv_at {l : List Nat} {j : Nat} (h : j < l.length) : (wv l)[j]? = some (.int .u32 ((l.getD j 0 : Nat) : Int)) := by
  simp [wv, List.getD_eq_getElem?_getD, h]
theorem bv_at {l : List Int} {j : Nat} (h : j < l.length) : (bv l)[j]? = some (.int .u8 (l.getD j 0)) := by
  simp [bv, List.getD_eq_getElem?_getD, h]
theorem wv_set (l : List Nat) (j n : Nat) : (wv l).set j (.int .u32 (n : Int)) = wv (l.set j n) := by simp [wv, List.map_set]
theorem bv_set (l : List Int) (j : Nat) (n : Int) : (bv l).set j (.int .u8 n) = bv (l.set j n) := by simp [bv, List.map_set]
theorem row_wv {w : World} {g : Nat} {l : List Nat} {t : TypeId} {j : Nat} (h : w.heap[g]? = some (.cells (wv l).toArray t (0, 0))) (hj : j < l.length) : w.cell? ⟨g, j, none⟩ = some (.int .u32 ((l.getD j 0 : Nat) : Int)) := by
  rw [cell_of_row w g j _ t (0, 0) h, List.getElem?_toArray]; exact wv_at hj
theorem row_bv {w : World} {g : Nat} {l : List Int} {t : TypeId} {j : Nat} (h : w.heap[g]? = some (.cells (bv l).toArray t (0, 0))) (hj : j < l.length) : w.cell? ⟨g, j, none⟩ = some (.int .u8 (l.getD j 0)) := by
  rw [cell_of_row w g j _ t (0, 0) h, List.getElem?_toArray]; exact bv_at hj
theorem row_wset {w : World} {g : Nat} {l : List Nat} {t : TypeId} (j n : Nat) (h : w.heap[g]? = some (.cells (wv l).toArray t (0, 0))) : (w.setCell ⟨g, j, none⟩ (.int .u32 (n : Int))).heap[g]? = some (.cells (wv (l.set j n)).toArray t (0, 0)) := by
  rw [heap_setCell_same w g j _ t _ h]; simp [wv, List.map_set]
theorem row_bset {w : World} {g : Nat} {l : List Int} {t : TypeId} (j : Nat) (n : Int) (h : w.heap[g]? = some (.cells (bv l).toArray t (0, 0))) : (w.setCell ⟨g, j, none⟩ (.int .u8 n)).heap[g]? = some (.cells (bv (l.set j n)).toArray t (0, 0)) := by
  rw [heap_setCell_same w g j _ t _ h]; simp [bv, List.map_set]
theorem row_free {w : World} {g : Nat} {cs : Array Value} {t : TypeId} (h : w.heap[g]? = some (.cells cs t (0, 0))) (j : Nat) : w.frozen? ⟨g, j, none⟩ = false := frozen_of_row w g j cs t h
/-- A row of bytes, as a slice of it reads. -/
theorem rd_row {w : World} {g : Nat} {l : List Int} {t : TypeId} (h : w.heap[g]? = some (.cells (bv l).toArray t (0, 0))) : RdI w .u8 (some ⟨g, 0, none⟩) l := by
  refine .inr ⟨_, rfl, (Array.getElem?_eq_some_iff.1 h).1, fun j hj => ?_⟩
  have e : (⟨g, 0, none⟩ : Addr).add j = ⟨g, j, none⟩ := by unfold Addr.add; by_cases h : j = 0 <;> simp [h]
  rw [e]; exact row_bv h hj
theorem rd_roww {w : World} {g : Nat} {l : List Nat} {t : TypeId} (h : w.heap[g]? = some (.cells (wv l).toArray t (0, 0))) : RdI w .u32 (some ⟨g, 0, none⟩) (l.map (fun n : Nat => (n : Int))) := by
  refine .inr ⟨_, rfl, (Array.getElem?_eq_some_iff.1 h).1, fun j hj => ?_⟩
  have e : (⟨g, 0, none⟩ : Addr).add j = ⟨g, j, none⟩ := by unfold Addr.add; by_cases h : j = 0 <;> simp [h]
  have hj' : j < l.length := by simpa using hj
  rw [e, row_wv h hj']
  simp [List.getD_eq_getElem?_getD, hj']
theorem bNg {n : Nat} {W w : World} (h : Below n W w) (m : Nat) : Below n W (w.drewN m) := ⟨h.os, h.tape, h.output, h.size, h.block⟩
theorem bDg {n : Nat} {W w : World} (h : Below n W w) : Below n W w.drew := h.drew
theorem bSg {n g j : Nat} {W w : World} (h : Below n W w) (hg : n ≤ g) (v : Value) : Below n W (w.setCell ⟨g, j, none⟩ v) := h.setCell hg v
theorem bTg {n m : Nat} {W w1 w2 : World} (h : Below n W w1) (k : Below m w1 w2) (hm : n ≤ m) : Below n W w2 := h.trans (k.mono hm)
theorem keep_b2 {n : Nat} {W0 W w9 : World} {a b : Addr} {x y : Value} (h : Below n W0 W ∧ W.cell? a = some x ∧ W.cell? b = some y) (hn : n ≤ W.heap.size) (hb : Below W.heap.size W w9) : Below n W0 w9 ∧ w9.cell? a = some x ∧ w9.cell? b = some y :=
  ⟨bTg h.1 hb hn, (hb.cell (p := a) (World.block_lt_of_cell? W a h.2.1)).trans h.2.1, (hb.cell (p := b) (World.block_lt_of_cell? W b h.2.2)).trans h.2.2⟩
theorem newRow (w : World) (A B : Array Value) (t : TypeId) : ∃ w1, (w.alloc (.cells A t)).setRow w.heap.size B = w1 ∧ w1.heap[w.heap.size]? = some (.cells B t (0, 0)) ∧ Below w.heap.size w w1 ∧ w1.heap.size = w.heap.size + 1 :=
  ⟨_, rfl, setRow_heap _ _ _ _ _ _ (heap_alloc_new w _), setRow_below (bel1 w _) (Nat.le_refl _), by simp⟩
theorem new2 (w : World) (A B : Obj) : ∃ w0, ((w.alloc A).alloc B) = w0 ∧ w0.heap[w.heap.size]? = some A ∧ w0.heap[w.heap.size + 1]? = some B ∧ w0.heap.size = w.heap.size + 1 + 1 ∧ Below w.heap.size w w0 := by
  refine ⟨_, rfl, ?_, ?_, ?_, ?_⟩
  · exact (Below.heap_alloc _ _ _ (by simp)).trans (heap_alloc_new _ _)
  · have := heap_alloc_new (w.alloc A) B; simpa using this
  · simp
  · exact bA (bel1 _ _) _
theorem new4 (w : World) (A B C D : Obj) : ∃ w0, ((((w.alloc A).alloc B).alloc C).alloc D) = w0 ∧ w0.heap[w.heap.size]? = some A ∧ w0.heap[w.heap.size + 1]? = some B ∧ w0.heap[w.heap.size + 1 + 1]? = some C ∧ w0.heap[w.heap.size + 1 + 1 + 1]? = some D ∧ w0.heap.size = w.heap.size + 1 + 1 + 1 + 1 ∧ Below w.heap.size w w0 := by
  obtain ⟨w1, h1, a1, a2, a3, a4⟩ := new2 w A B
  obtain ⟨w2, h2, b1, b2, b3, b4⟩ := new2 w1 C D
  refine ⟨w2, by rw [h1, h2], ?_, ?_, ?_, ?_, by omega, bT a4 b4⟩
  · exact (b4.block _ (by omega)).trans a1
  · exact (b4.block _ (by omega)).trans a2
  · rw [a3] at b1; exact b1
  · rw [a3] at b2; exact b2
end Go.Proofs.Ytachkhjbckapoaa

namespace Go.Proofs.Ytachkhjbckapoaa
open Go.RowKit
set_option linter.unusedVariables false
set_option maxRecDepth 100000
set_option linter.unusedSimpArgs false

/-- The number and the error of a row of digits, n being the number so far. -/
def getGo : List Int → Int → Int × Int
  | [], n => (n, 0)
  | d :: l, n => if 9 < d then (0, 7) else getGo l (10 * n + d)
def getR (l : List Int) : Int × Int := if 18 < l.length then (0, 1) else getGo l 0

theorem getGo_cons (d : Int) (l : List Int) (n : Int) : getGo (d :: l) n = if 9 < d then (0, 7) else getGo l (10 * n + d) := rfl
theorem getR_long {l : List Int} (h : 18 < l.length) : getR l = (0, 1) := by unfold getR; rw [if_pos h]
theorem getR_short {l : List Int} (h : ¬ 18 < l.length) : getR l = getGo l 0 := by unfold getR; rw [if_neg h]

theorem ret2 {k k' : IntKind} {a b a' b' : Int} (h : a = a') (h' : b = b') : Ending.returned (.tuple #[.int k a, .int k' b]) = .returned (.tuple #[.int k a', .int k' b']) := by rw [h, h']
theorem pow10_le {k : Nat} (h : k ≤ 17) : (10 : Int) ^ k ≤ 100000000000000000 := by
  have : (10 : Nat) ^ k ≤ 10 ^ 17 := Nat.pow_le_pow_right (by omega) h
  have e : ((10 ^ k : Nat) : Int) = (10 : Int) ^ k := by simp
  rw [← e]; omega

set_option maxHeartbeats 2000000 in
theorem bcdGet_any (A : Option Addr) (c : Nat) (l : List Int) (w : World) (hr : RdI w .u8 A l) (hb : ∀ x ∈ l, 0 ≤ x ∧ x < 256) :
    Calls Try.prog 138 #[.slice A l.length c] w fun e w' => e = .returned (.tuple #[.int .i64 (getR l).1, .int .i64 (getR l).2]) ∧ w = w' := by
  by_cases hl : 18 < l.length
  · have E := Lib.hid (getR_long hl)
    go_enter Try.func138, Try.ntmps138
    go_wp2
    go_ret2
    exact ⟨by rw [E.out] <;> rfl, rfl⟩
  · have E := Lib.hid (getR_short hl)
    go_enter Try.func138, Try.ntmps138
    go_wp2
    go_loop [4, 12] (fun n i => ∃ (k : Nat) (m : Int), k ≤ l.length ∧ i = .int .i64 k ∧ n = .int .i64 m ∧ 0 ≤ m ∧ m < 10 ^ k ∧ Hid (getGo (l.drop k) m = getGo l 0)) (fun n i => l.length - (intOf i).toNat)
    case atStart => exact ⟨0, 0, Nat.zero_le _, rfl, rfl, by omega, by simp, Lib.hid (by simp)⟩
    case round =>
      obtain ⟨k, m, hk, rfl, rfl, h0, h1, hg⟩ := hrel
      by_cases hlt : k < l.length
      · obtain ⟨ad, rfl, hc⟩ := hr.at_ hlt
        have hd := hb (l.getD k 0) (getD_mem hlt)
        have hp := pow10_le (k := k) (by omega)
        have hm : m < 100000000000000000 := by omega
        have hs : (10 : Int) ^ (k + 1) = 10 * 10 ^ k := by rw [Int.pow_succ]; omega
        have hn : 10 * m + l.getD k 0 < 10 ^ (k + 1) ∨ 9 < l.getD k 0 := by omega
        have H1 := Lib.hid hn
        have e := hg.out
        rw [drop_cons hlt, getGo_cons] at e
        have He := Lib.hid e
        clear hs hn e hg hp h1
        generalize l.getD k 0 = d at *
        by_cases h9 : 9 < d
        · go_wp2
          go_ret2
          have e := He.out
          rw [if_pos h9] at e
          exact ⟨by rw [E.out, ← e] <;> rfl, rfl⟩
        · go_wp2
          go_round
          case rel => exact ⟨k + 1, 10 * m + d, by omega, by go_num, rfl, by omega, by have := H1.out; omega, Lib.hid (by have e := He.out; rw [if_neg h9] at e; exact e)⟩
          case measure => simp [intOf]; omega
      · have hkl : k = l.length := by omega
        have e := hg.out
        rw [List.drop_eq_nil_of_le (by omega)] at e
        have He := Lib.hid e
        clear e hg hkl
        go_wp2
        go_ret2
        exact ⟨by rw [E.out, ← He.out] <;> rfl, rfl⟩


end Go.Proofs.Ytachkhjbckapoaa

namespace Go.Proofs.Ytachkhjbckapoaa
open Go.RowKit
set_option linter.unusedVariables false
set_option maxRecDepth 100000
set_option linter.unusedSimpArgs false

def word4 (a b c d : Int) : Nat := a.toNat * 16777216 + b.toNat * 65536 + c.toNat * 256 + d.toNat
def wordsN : List Int → List Nat
  | a :: b :: c :: d :: t => word4 a b c d :: wordsN t
  | _ => []
def beW (x : Nat) : List Int := [(x : Int) / 16777216, (x : Int) / 65536 % 256, (x : Int) / 256 % 256, (x : Int) % 256]
def bytesN : List Nat → List Int
  | [] => []
  | x :: t => beW x ++ bytesN t
theorem word4_lt {a b c d : Int} (ha : 0 ≤ a ∧ a < 256) (hb : 0 ≤ b ∧ b < 256) (hc : 0 ≤ c ∧ c < 256) (hd : 0 ≤ d ∧ d < 256) : word4 a b c d < 4294967296 := by unfold word4; omega
theorem wordsN_len : ∀ (m : Nat) (l : List Int), l.length = 4 * m → (wordsN l).length = m
  | 0, l, h => by
    obtain rfl : l = [] := List.eq_nil_of_length_eq_zero (by omega)
    rfl
  | m + 1, l, h => by
    rcases l with _ | ⟨a, _ | ⟨b, _ | ⟨c, _ | ⟨d, t⟩⟩⟩⟩ <;> simp at h <;> try omega
    simp only [wordsN, List.length_cons]
    rw [wordsN_len m t (by omega)]
theorem wordsN_snoc : ∀ (k : Nat) (l : List Int), 4 * k + 4 ≤ l.length → wordsN (l.take (4 * (k + 1))) = wordsN (l.take (4 * k)) ++ [word4 (l.getD (4 * k) 0) (l.getD (4 * k + 1) 0) (l.getD (4 * k + 2) 0) (l.getD (4 * k + 3) 0)]
  | 0, l, h => by
    rcases l with _ | ⟨a, _ | ⟨b, _ | ⟨c, _ | ⟨d, t⟩⟩⟩⟩ <;> simp at h
    simp [wordsN]
  | k + 1, l, h => by
    rcases l with _ | ⟨a, _ | ⟨b, _ | ⟨c, _ | ⟨d, t⟩⟩⟩⟩ <;> simp at h <;> try omega
    have ih := wordsN_snoc k t (by omega)
    rw [show 4 * (k + 1 + 1) = (4 * (k + 1)) + 1 + 1 + 1 + 1 by omega, show 4 * (k + 1) = 4 * k + 1 + 1 + 1 + 1 by omega]
    simp only [List.take_succ_cons, wordsN, List.getD_cons_succ, List.cons_append]
    rw [show 4 * k + 1 + 1 + 1 + 1 = 4 * (k + 1) by omega, ih]
theorem wordsN_W32 : ∀ (l : List Int), (∀ x ∈ l, 0 ≤ x ∧ x < 256) → W32 (wordsN l)
  | a :: b :: c :: d :: t, h => fun x hx => by
    simp only [wordsN, List.mem_cons] at hx
    rcases hx with rfl | hx
    · exact word4_lt (h a (by simp)) (h b (by simp)) (h c (by simp)) (h d (by simp))
    · exact wordsN_W32 t (fun y hy => h y (by simp [hy])) x hx
  | [], _ => by simp [W32, wordsN]
  | [_], _ => by simp [W32, wordsN]
  | [_, _], _ => by simp [W32, wordsN]
  | [_, _, _], _ => by simp [W32, wordsN]
theorem words_at {l : List Int} {m k : Nat} (hl : l.length = 4 * m) (hk : k < m) : (wv (wordsN (l.take (4 * k)) ++ List.replicate (m - k) 0))[k]? = some (.int .u32 0) := by
  have h1 : (wordsN (l.take (4 * k))).length = k := wordsN_len k _ (by rw [List.length_take]; omega)
  obtain ⟨j, hj⟩ : ∃ j, m - k = j + 1 := ⟨m - k - 1, by omega⟩
  rw [wv, List.getElem?_map, List.getElem?_append_right (by omega), h1, Nat.sub_self, hj]
  rfl
theorem words_set {l : List Int} {m k y : Nat} (hl : l.length = 4 * m) (hk : k < m) (h : wordsN (l.take (4 * (k + 1))) = wordsN (l.take (4 * k)) ++ [y]) : (wv (wordsN (l.take (4 * k)) ++ List.replicate (m - k) 0)).set k (.int .u32 (y : Int)) = wv (wordsN (l.take (4 * (k + 1))) ++ List.replicate (m - (k + 1)) 0) := by
  have h1 : (wordsN (l.take (4 * k))).length = k := wordsN_len k _ (by rw [List.length_take]; omega)
  obtain ⟨j, hj⟩ : ∃ j, m - k = j + 1 := ⟨m - k - 1, by omega⟩
  rw [wv_set, h, hj, show m - (k + 1) = j by omega, List.replicate_succ, List.set_append, if_neg (by omega), h1, Nat.sub_self, List.set_cons_zero, List.append_assoc]
  rfl
theorem or4 {a b c d : Int} (ha : 0 ≤ a ∧ a < 256) (hb : 0 ≤ b ∧ b < 256) (hc : 0 ≤ c ∧ c < 256) (hd : 0 ≤ d ∧ d < 256) :
    bits .or .u32 (bits .or .u32 (bits .or .u32 (IntKind.u32.wrap (a * 16777216)) (IntKind.u32.wrap (b * 65536))) (IntKind.u32.wrap (c * 256))) d = ((word4 a b c d : Nat) : Int) := by
  have wr : ∀ n : Int, 0 ≤ n → n < 2 ^ 32 → IntKind.u32.wrap n = n := wraps_u32
  rw [wr (a * 16777216) (by omega) (by omega), wr (b * 65536) (by omega) (by omega), wr (c * 256) (by omega) (by omega)]
  have j1 : bits .or .u32 (a * 16777216) (b * 65536) = a * 16777216 + b * 65536 := bits_join .u32 32 (by decide) wraps_u32 24 (a * 16777216) (b * 65536) (by omega) (by omega) (by omega) (by omega) (by omega) (by omega)
  have j2 : bits .or .u32 (a * 16777216 + b * 65536) (c * 256) = a * 16777216 + b * 65536 + c * 256 := bits_join .u32 32 (by decide) wraps_u32 16 (a * 16777216 + b * 65536) (c * 256) (by omega) (by omega) (by omega) (by omega) (by omega) (by omega)
  have j3 : bits .or .u32 (a * 16777216 + b * 65536 + c * 256) d = a * 16777216 + b * 65536 + c * 256 + d := bits_join .u32 32 (by decide) wraps_u32 8 (a * 16777216 + b * 65536 + c * 256) d (by omega) (by omega) (by omega) (by omega) (by omega) (by omega)
  rw [j1, j2, j3]
  unfold word4
  omega
theorem infoU32 : (Try.prog.info? 146).map (fun i => (i.zero, i.size, i.bytes)) = some (some (.int .u32 0), 1, 4) := by kernel_rfl

set_option maxHeartbeats 4000000 in
theorem words_any (A : Option Addr) (c m : Nat) (l : List Int) (w : World) (hr : RdI w .u8 A l) (hl : l.length = 4 * m) (hlc : l.length ≤ c) (hm : m ≤ 1000000) (hb : ∀ x ∈ l, 0 ≤ x ∧ x < 256) :
    Calls Try.prog 127 #[.slice A l.length c] w fun e w' => ∃ g, e = .returned (.tuple #[.slice (some ⟨g, 0, none⟩) m m, .int .i64 0]) ∧ w'.ownsRow w.heap.size 146 1 (.slice (some ⟨g, 0, none⟩) m m) m (wv (wordsN l)) ∧ Below w.heap.size w w' := by
  obtain ⟨i0, hi, hz0, hz1, hz2⟩ := info_parts infoU32
  have d1 : (l.length : Int) % 4 = 0 := by omega
  have d2 : (l.length : Int) / 4 = (m : Int) := by omega
  have HL := Lib.hid hl
  clear hl
  go_enter Try.func127, Try.ntmps127
  go_wp2_with (first
    | (at_make; refine wpList_make_full _ rfl _ _ 148 rfl w.heap.size 146 i0 (.int .u32 0) 1 Try.underlying148 hi hz0 hz1 .i64 .i64 _ _ m rfl rfl rfl rfl (by rw [hz2]; omega) (by unfold maxLen; omega) (Nat.le_refl _) ?_; intro w1 hown hg))
  have hown2 : w1.ownsRow w.heap.size 146 1 (.slice (some ⟨w.heap.size, 0, none⟩) m m) m (wv (wordsN (l.take (4 * 0)) ++ List.replicate (m - 0) 0)) := by
    have e : (madeCells (Value.int .u32 0).cells (m * 1)).toList = wv (wordsN (l.take (4 * 0)) ++ List.replicate (m - 0) 0) := by
      show (madeCells #[Value.int .u32 0] (m * 1)).toList = _
      rw [toList_madeCells_one]; simp [wv, wordsN]
    rw [← e]; exact hown
  clear hown
  go_loopw [17] (fun i wr => ∃ k : Nat, k ≤ m ∧ i = .int .i64 k ∧ wr.ownsRow w.heap.size 146 1 (.slice (some ⟨w.heap.size, 0, none⟩) m m) m (wv (wordsN (l.take (4 * k)) ++ List.replicate (m - k) 0)) ∧ Below w.heap.size w wr) (fun i _ => m - (intOf i).toNat)
  case atStart => exact ⟨0, Nat.zero_le _, rfl, hown2, bG (bR _) hg (fun k h => by cases h)⟩
  case round =>
    obtain ⟨k, hk, rfl, ho, hbl⟩ := hrel
    by_cases hlt : k < m
    · obtain ⟨ad, rfl, q0⟩ := (hr.below hbl).at_ (j := 4 * k) (by rw [HL.out]; omega)
      obtain ⟨ad', ha', q1⟩ := (hr.below hbl).at_ (j := 4 * k + 1) (by rw [HL.out]; omega)
      obtain rfl := Option.some.inj ha'
      obtain ⟨ad', ha', q2⟩ := (hr.below hbl).at_ (j := 4 * k + 2) (by rw [HL.out]; omega)
      obtain rfl := Option.some.inj ha'
      obtain ⟨ad', ha', q3⟩ := (hr.below hbl).at_ (j := 4 * k + 3) (by rw [HL.out]; omega)
      obtain rfl := Option.some.inj ha'
      rw [← add_add] at q1 q2 q3
      obtain ⟨pd, hpd⟩ : ∃ pd, ad.add (4 * k) = pd := ⟨_, rfl⟩
      rw [hpd] at q0 q1 q2 q3
      have hx0 := hb _ (getD_mem (show 4 * k < l.length by rw [HL.out]; omega))
      have hx1 := hb _ (getD_mem (show 4 * k + 1 < l.length by rw [HL.out]; omega))
      have hx2 := hb _ (getD_mem (show 4 * k + 2 < l.length by rw [HL.out]; omega))
      have hx3 := hb _ (getD_mem (show 4 * k + 3 < l.length by rw [HL.out]; omega))
      have HSN := Lib.hid (wordsN_snoc k l (by rw [HL.out]; omega))
      generalize l.getD (4 * k) 0 = x0 at *
      generalize l.getD (4 * k + 1) 0 = x1 at *
      generalize l.getD (4 * k + 2) 0 = x2 at *
      generalize l.getD (4 * k + 3) 0 = x3 at *
      have hck : ¬ c = 4 * k := by have := HL.out; omega
      have n1 : (4 * (k : Int)).toNat = 4 * k := by omega
      have n2 : (4 * (k : Int) + 4).toNat = 4 * k + 4 := by omega
      have n3 : (4 * (k : Int) + 4 : Int) ≤ (c : Int) := by have := HL.out; omega
      have hcell := ho.cellAt k (by omega)
      rw [show (wv (wordsN (l.take (4 * k)) ++ List.replicate (m - k) 0))[k]? = some (.int .u32 0) from words_at HL.out hlt] at hcell
      have hfr := ho.frozenAt k
      obtain ⟨y, hy⟩ : ∃ y, word4 x0 x1 x2 x3 = y := ⟨_, rfl⟩
      have X : bits .or .u32 (bits .or .u32 (bits .or .u32 (IntKind.u32.wrap (x0 * 16777216)) (IntKind.u32.wrap (x1 * 65536))) (IntKind.u32.wrap (x2 * 256))) x3 = (y : Int) := by rw [← hy]; exact or4 hx0 hx1 hx2 hx3
      have w0 : IntKind.u32.wrap x0 = x0 := wraps_u32 _ (by omega) (by omega)
      have w1' : IntKind.u32.wrap x1 = x1 := wraps_u32 _ (by omega) (by omega)
      have w2' : IntKind.u32.wrap x2 = x2 := wraps_u32 _ (by omega) (by omega)
      have w3' : IntKind.u32.wrap x3 = x3 := wraps_u32 _ (by omega) (by omega)
      have HO := Lib.hid (ho.stored k (.int .u32 (y : Int)))
      have HY := Lib.hid hy
      have r0 : ({ heap := wr.heap, tape := wr.tape, drawn := wr.drawn + 1, os := wr.os, output := wr.output } : World).cell? pd = some (.int .u8 x0) := q0
      have r1 : ({ heap := wr.heap, tape := wr.tape, drawn := wr.drawn + 1, os := wr.os, output := wr.output } : World).cell? ⟨pd.block, pd.off + 1, none⟩ = some (.int .u8 x1) := q1
      have r2 : ({ heap := wr.heap, tape := wr.tape, drawn := wr.drawn + 1, os := wr.os, output := wr.output } : World).cell? ⟨pd.block, pd.off + 2, none⟩ = some (.int .u8 x2) := q2
      have r3 : ({ heap := wr.heap, tape := wr.tape, drawn := wr.drawn + 1, os := wr.os, output := wr.output } : World).cell? ⟨pd.block, pd.off + 3, none⟩ = some (.int .u8 x3) := q3
      have s0 : wr.cell? pd = some (.int .u8 x0) := q0
      have s1 : wr.cell? ⟨pd.block, pd.off + 1, none⟩ = some (.int .u8 x1) := q1
      have s2 : wr.cell? ⟨pd.block, pd.off + 2, none⟩ = some (.int .u8 x2) := q2
      have s3 : wr.cell? ⟨pd.block, pd.off + 3, none⟩ = some (.int .u8 x3) := q3
      clear hy q0 q1 q2 q3
      go_wp2
      go_still_tail 25, (by kernel_rfl)
      go_wp2
      go_roundw
      case rel => exact ⟨k + 1, by omega, by go_num, by rw [← words_set HL.out hlt (by rw [HSN.out, HY.out])]; exact HO.out.1, bD (bS hbl (Nat.le_refl _))⟩
      case measure => simp [intOf]; omega
    · obtain rfl : k = m := by omega
      have ho' := ho
      rw [Nat.sub_self, List.replicate_zero, List.append_nil, List.take_of_length_le (by rw [HL.out]; exact Nat.le_refl _)] at ho'
      have HO := Lib.hid ho'
      clear ho ho' hown2 hg
      go_wp2
      go_ret2
      exact ⟨_, rfl, HO.out, hbl⟩

theorem bytesN_len : ∀ (l : List Nat), (bytesN l).length = 4 * l.length
  | [] => rfl
  | x :: t => by simp only [bytesN, List.length_append, List.length_cons, bytesN_len t, beW, List.length_nil]; omega
theorem bytesN_app : ∀ (l m : List Nat), bytesN (l ++ m) = bytesN l ++ bytesN m
  | [], m => rfl
  | x :: t, m => by simp only [List.cons_append, bytesN, bytesN_app t m, List.append_assoc]
theorem bytesN_snoc {l : List Nat} {k : Nat} (h : k < l.length) : bytesN (l.take (k + 1)) = bytesN (l.take k) ++ beW (l.getD k 0) := by
  rw [List.take_succ_eq_append_getElem h, bytesN_app]
  simp [bytesN, List.getD_eq_getElem?_getD, h]
theorem bytesN_byte : ∀ (l : List Nat), W32 l → ∀ x ∈ bytesN l, 0 ≤ x ∧ x < 256
  | [], _, x, h => by simp [bytesN] at h
  | y :: t, hw, x, h => by
    have hy := hw y (by simp)
    simp only [bytesN, List.mem_append, beW, List.mem_cons, List.not_mem_nil, or_false] at h
    rcases h with (rfl | rfl | rfl | rfl) | h
    · omega
    · omega
    · omega
    · omega
    · exact bytesN_byte t (fun z hz => hw z (by simp [hz])) x h
set_option maxHeartbeats 4000000 in
theorem bytes_any (A : Option Addr) (c : Nat) (l : List Nat) (w : World) (hr : RdI w .u32 A (l.map (fun n : Nat => (n : Int)))) (hl : l.length ≤ 1000000) (hb : W32 l) :
    Calls Try.prog 129 #[.slice A l.length c] w fun e w' => ∃ v, e = .returned v ∧ w'.ownsRow w.heap.size 5 1 v (bytesN l).length ((bytesN l).map (.int .u8)) ∧ Below w.heap.size w w' := by
  obtain ⟨i0, hi, hz0, hz1, hz2⟩ := info_parts infoB8
  have e4 : wrap64 (4 * (l.length : Int)) = 4 * (l.length : Int) := by unfold wrap64; omega
  go_enter Try.func129, Try.ntmps129
  go_wp2_with (first
    | (at_make; refine wpList_make_own _ rfl _ _ 30 rfl w.heap.size 5 i0 (.int .u8 0) 1 Try.underlying30 hi hz0 hz1 .i64 .i64 _ (4 * l.length) rfl rfl ?_ ?_ ?_ (Nat.le_refl _) ?_; (focus (simp)); (focus (rw [hz2]; omega)); (focus (unfold maxLen; omega)); intro w1 hown hg))
  go_loopw [3, 12] (fun v i wr => ∃ k : Nat, k ≤ l.length ∧ i = .int .i64 k ∧ wr.ownsRow w.heap.size 5 1 v (bytesN (l.take k)).length ((bytesN (l.take k)).map (.int .u8)) ∧ Below w.heap.size w wr) (fun _ i _ => l.length - (intOf i).toNat)
  case atStart => exact ⟨0, Nat.zero_le _, rfl, hown, bG (bR _) hg (fun k h => by cases h)⟩
  case round =>
    obtain ⟨k, hk, rfl, ho, hbl⟩ := hrel
    by_cases hlt : k < l.length
    · obtain ⟨ad, rfl, q0⟩ := (hr.below hbl).at_ (j := k) (by simpa using hlt)
      rw [show (l.map (fun n : Nat => (n : Int))).getD k 0 = ((l.getD k 0 : Nat) : Int) by simp [List.getD_eq_getElem?_getD, hlt]] at q0
      have hx := hb.at_ k
      have HSN := Lib.hid (bytesN_snoc hlt)
      have hlen : (bytesN (l.take k)).length ≤ 4000000 := by rw [bytesN_len, List.length_take]; omega
      generalize l.getD k 0 = x at *
      obtain ⟨D, hD⟩ : ∃ D, bytesN (l.take k) = D := ⟨_, rfl⟩
      rw [hD] at ho hlen
      have HD := Lib.hid hD
      obtain ⟨b0, hb0⟩ : ∃ y, (x : Int) / 16777216 = y := ⟨_, rfl⟩
      obtain ⟨b1, hb1⟩ : ∃ y, (x : Int) / 65536 % 256 = y := ⟨_, rfl⟩
      obtain ⟨b2, hb2⟩ : ∃ y, (x : Int) / 256 % 256 = y := ⟨_, rfl⟩
      obtain ⟨b3, hb3⟩ : ∃ y, (x : Int) % 256 = y := ⟨_, rfl⟩
      have HBE : Hid (beW x = [b0, b1, b2, b3]) := Lib.hid (by unfold beW; rw [hb0, hb1, hb2, hb3])
      have W0 : IntKind.u8.wrap ((x : Int) / 16777216) = b0 := by rw [IntKind.wrap_u8]; omega
      have W1 : IntKind.u8.wrap ((x : Int) / 65536) = b1 := by rw [IntKind.wrap_u8]; omega
      have W2 : IntKind.u8.wrap ((x : Int) / 256) = b2 := by rw [IntKind.wrap_u8]; omega
      have W3 : IntKind.u8.wrap (x : Int) = b3 := by rw [IntKind.wrap_u8]; omega
      have hown3 := own_ge ho
      have HOG := Lib.hid hown3
      have HR := Lib.hid (show ∀ (W : World) (t : TypeId), RdI (W.alloc (.cells #[.int .u8 b0, .int .u8 b1, .int .u8 b2, .int .u8 b3] t)) .u8 (some ⟨W.heap.size, 0, none⟩) [b0, b1, b2, b3] from fun W t => RdI.lit W .u8 [b0, b1, b2, b3] t)
      clear hD hb0 hb1 hb2 hb3 hown3 hown hg
      go_wp2_with (at_builtin; refine wpL_app (k := .u8) rfl _ _ 30 rfl w.heap.size 5 i0 (.int .u8 0) 1 Try.underlying30 hi hz0 hz1 hz2 rfl _ (D) rfl (ho.alloc _) _ _ ([b0, b1, b2, b3]) rfl (HR.out _ _) ?_ ?_ ?_ ?_; (focus (exact maxLen_ge (by simp; omega))); (focus ((simp; omega))); (focus (have := hbl.size; simp; omega)); intro v2 w2 ho2 hg2 _)
      have h2 := bG (bA hbl _) hg2 HOG.out
      have HO2 := Lib.hid ho2
      clear hg2 ho2
      go_wp2
      go_roundw
      case rel => exact ⟨k + 1, by omega, by go_num, by rw [HSN.out, HD.out, HBE.out]; exact HO2.out, h2⟩
      case measure => simp [intOf]; omega
    · have ho' := ho
      rw [List.take_of_length_le (by omega)] at ho'
      have HO := Lib.hid ho'
      clear ho ho' hown hg
      go_wp2
      go_ret
      exact ⟨_, rfl, HO.out, hbl⟩
end Go.Proofs.Ytachkhjbckapoaa

namespace Go.Proofs.Ytachkhjbckapoaa
open Go.RowKit
set_option linter.unusedVariables false
set_option maxRecDepth 100000
set_option linter.unusedSimpArgs false

theorem wpO_appr {P : Program} {w : World} {o : Oper} {a : Act} {Q : Exit → Act → World → Prop} {K : Act → World → Prop} {k : IntKind} (s x : Operand) (t : TypeId)
    (ho : o.op = .call { callee := .builtin .append, args := #[s, x], argTypes := #[t, t] })
    (base : Nat) (e : TypeId) (i : TypeInfo) (z : Value) (bytes : Nat) (ht : P.underlying t = some (.slice e)) (hi : P.info? e = some i) (hz : i.zero = some z)
    (hsize : i.size = 1) (hby : i.bytes = bytes) (hzs : z.cells.size = 1)
    (v : Value) (xs : List Int) (hs : a.eval s = v) (hown : w.ownsRow base e 1 v xs.length (xs.map (.int k)))
    (A : Option Addr) (c : Nat) (ys : List Int) (hx : a.eval x = .slice A ys.length c) (hr : RdI w k A ys)
    (h63 : xs.length + ys.length ≤ maxLen) (hbytes : (xs.length + ys.length) * bytes ≤ 140737488355328) (hbase : base ≤ w.heap.size)
    (h : ∀ v' w', w'.ownsRow base e 1 v' (xs ++ ys).length ((xs ++ ys).map (.int k)) → w.grownBy w' v.ownBlock → (v'.ownBlock = v.ownBlock ∨ v'.ownBlock = some w.heap.size) → K (a.put o.dst v') w') :
    o.wp P a w K Q := by
  rcases A with _ | ad
  · have hy : ys = [] := by
      rcases hr with h | ⟨ad, h, _⟩
      · exact h
      · cases h
    subst hy
    have hrun := run_append_nilsrc (P := P) w base t o.type e i 1 ht hi v _ _ hown c
    unfold Oper.wp execOp
    simp only [ho, resolve, invoke, builtin, Sem.run_bind, Sem.run_pure, Result.andThen_ok, List.map_toArray, List.map_cons, List.map_nil, hs, hx, List.length_nil, hrun]
    exact h v w (by simpa using hown) (World.grownBy.refl w _) (.inl rfl)
  · have hc : ∀ j u, (ys.map (Value.int k))[j]? = some u → w.cell? (ad.add j) = some u := by
      intro j u hu
      rcases hr with rfl | ⟨ad', h', _, hc⟩
      · simp at hu
      · obtain rfl := Option.some.inj h'
        rw [List.getElem?_map] at hu
        by_cases hj : j < ys.length
        · rw [hc j hj]; simpa [hj] using hu
        · simp [hj] at hu
    obtain ⟨v', w', hrun, h1, h2, _, h4⟩ := run_append_own_at (P := P) (w := w) base t o.type e i z 1 bytes ht hi hz hsize hby hzs (by omega) v xs.length (xs.map (.int k)) hown ad ys.length c (ys.map (.int k)) (by simp) hc (one_ints _ _) h63 hbytes hbase
    unfold Oper.wp execOp
    simp only [ho, resolve, invoke, builtin, Sem.run_bind, Sem.run_pure, Result.andThen_ok, List.map_toArray, List.map_cons, List.map_nil, hs, hx, hrun]
    exact h v' w' (by simpa using h1) h2 h4
theorem keepc_rw {W w9 : World} {a : Addr} {v : Value} (hb : Below W.heap.size W w9) (hc : W.cell? a = some v) : w9.cell? a = some v := (hb.cell (World.block_lt_of_cell? W a hc)).trans hc
set_option maxHeartbeats 4000000 in
theorem refBytes_any (A : Option Addr) (c : Nat) (l : List Nat) (w : World) (hr : RdI w .u32 A (l.map (fun n : Nat => (n : Int)))) (hl : l.length ≤ 1000000) (hb : W32 l) :
    Calls Try.prog 134 #[.slice A l.length c] w fun e w' => ∃ v, e = .returned v ∧ w'.ownsRow w.heap.size 5 1 v (bytesN l).length ((bytesN l).map (.int .u8)) ∧ Below w.heap.size w w' := by
  obtain ⟨i0, hi, hz0, hz1, hz2⟩ := info_parts infoB8
  go_enter Try.func134, Try.ntmps134
  go_wp2
  go_loopw [3, 4] (fun v i wr => ∃ k : Nat, k ≤ l.length ∧ i = .int .i64 k ∧ wr.ownsRow w.heap.size 5 1 v (bytesN (l.take k)).length ((bytesN (l.take k)).map (.int .u8)) ∧ Below w.heap.size w wr) (fun _ i _ => l.length - (intOf i).toNat)
  case atStart => exact ⟨0, Nat.zero_le _, rfl, own_lit0 _ _ _, (by repeat (first | (with_reducible exact bR _) | (with_reducible refine bT ?_ (by assumption)) | (with_reducible apply bA) | (with_reducible apply bD) | (with_reducible apply bN) | (with_reducible refine bS ?_ (by first | omega | (simp; done) | (simp; omega)))))⟩
  case round =>
    obtain ⟨k, hk, rfl, ho, hbl⟩ := hrel
    by_cases hlt : k < l.length
    · obtain ⟨ad, rfl, hcw0⟩ := hr.at_ (j := k) (by simpa using hlt)
      rw [show (l.map (fun n : Nat => (n : Int))).getD k 0 = ((l.getD k 0 : Nat) : Int) by simp [List.getD_eq_getElem?_getD, hlt]] at hcw0
      have q0 := keepc_rw hbl hcw0
      have hx := hb.at_ k
      have HSN := Lib.hid (bytesN_snoc hlt)
      have hlen : (bytesN (l.take k)).length ≤ 4000000 := by rw [bytesN_len, List.length_take]; omega
      generalize l.getD k 0 = x at *
      obtain ⟨D, hD⟩ : ∃ D, bytesN (l.take k) = D := ⟨_, rfl⟩
      rw [hD] at ho hlen
      have HD := Lib.hid hD
      have hown3 := own_ge ho
      have HOG := Lib.hid hown3
      have z0 : IntKind.u8.wrap (IntKind.u32.wrap ((x : Int) / 16777216)) = (x : Int) / 16777216 := by rw [IntKind.wrap_u32, IntKind.wrap_u8]; omega
      have z1 : IntKind.u8.wrap ((IntKind.u32.wrap ((x : Int) / 65536)).tmod 256) = (x : Int) / 65536 % 256 := by rw [IntKind.wrap_u32, Int.tmod_eq_emod_of_nonneg (by omega), IntKind.wrap_u8]; omega
      have z2 : IntKind.u8.wrap ((IntKind.u32.wrap ((x : Int) / 256)).tmod 256) = (x : Int) / 256 % 256 := by rw [IntKind.wrap_u32, Int.tmod_eq_emod_of_nonneg (by omega), IntKind.wrap_u8]; omega
      have z3 : IntKind.u8.wrap ((x : Int).tmod 256) = (x : Int) % 256 := by rw [Int.tmod_eq_emod_of_nonneg (by omega), IntKind.wrap_u8]; omega
      have HR := Lib.hid (show ∀ (W : World) (t : TypeId), RdI (W.alloc (.cells #[.int .u8 (IntKind.u8.wrap (IntKind.u32.wrap ((x : Int) / 16777216))), .int .u8 (IntKind.u8.wrap ((IntKind.u32.wrap ((x : Int) / 65536)).tmod 256)), .int .u8 (IntKind.u8.wrap ((IntKind.u32.wrap ((x : Int) / 256)).tmod 256)), .int .u8 (IntKind.u8.wrap ((x : Int).tmod 256))] t)).drew .u8 (some ⟨W.heap.size, 0, none⟩) (beW x) from fun W t => by rw [z0, z1, z2, z3]; exact RdI.lit W .u8 (beW x) t)
      clear z0 z1 z2 z3
      have HOD := Lib.hid (show ∀ o : Obj, (wr.alloc o).drew.ownsRow w.heap.size 5 1 u3 D.length (D.map (.int .u8)) from fun o => ho.alloc o)
      have HBD := Lib.hid (show ∀ o : Obj, Below w.heap.size w (wr.alloc o).drew from fun o => bD (bA hbl o))
      have HBW := Lib.hid (show Below w.heap.size w wr.drew from bD hbl)
      have HCW := Lib.hid (show w.cell? (ad.add k) = some (.int .u32 (x : Int)) from hcw0)
      have qd : wr.drew.cell? (ad.add k) = some (.int .u32 (x : Int)) := q0
      have hsz := hbl.size
      clear hD hown3 ho q0 hcw0
      go_wp2
      go_region_held3 (fun w9 => w9.cell? (ad.add k) = some (.int .u32 (x : Int))) (first | assumption | exact keepc_rw (HBD.out _) HCW.out) ((rw [if_pos (by rfl)]; refine wpO_appr (k := .u8) _ _ 30 rfl w.heap.size 5 i0 (.int .u8 0) 1 Try.underlying30 hi hz0 hz1 hz2 rfl u3 D rfl (HOD.out _) _ 4 (beW x) rfl (HR.out _ _) ?_ ?_ ?_ ?_; (focus (exact maxLen_ge (by rw [show (beW x).length = 4 from rfl]; omega))); (focus (rw [show (beW x).length = 4 from rfl]; omega)); (focus (have := hsz; simp; omega)); intro v2 w2 ho2 hg2 _; have h2 := bG (HBD.out _) hg2 HOG.out; have h3 := keepc_rw h2 HCW.out))
      have HO2 := Lib.hid ho2
      clear hg2 ho2
      go_wp2
      go_roundw
      case rel => exact ⟨k + 1, by omega, by go_num, by rw [HSN.out, HD.out]; exact HO2.out, h2⟩
      case measure => simp [intOf]; omega
    · have ho' := ho
      rw [List.take_of_length_le (by omega)] at ho'
      have HO := Lib.hid ho'
      clear ho ho'
      go_wp2
      go_ret
      exact ⟨_, rfl, HO.out, hbl⟩
/-- A word out of j bytes, one byte at a time. -/
def pw (l : List Int) (o : Nat) : Nat → Nat
  | 0 => 0
  | j + 1 => 256 * pw l o j + (l.getD (o + j) 0).toNat
theorem pw_lt {l : List Int} {o : Nat} (hb : ∀ j, l.getD (o + j) 0 < 256) : ∀ j, pw l o j < 256 ^ j
  | 0 => by simp [pw]
  | j + 1 => by
    have h1 := pw_lt hb j
    have h2 := hb j
    rw [pw, Nat.pow_succ]
    omega
theorem pw_4 (l : List Int) (o : Nat) : pw l o 4 = word4 (l.getD o 0) (l.getD (o + 1) 0) (l.getD (o + 2) 0) (l.getD (o + 3) 0) := by
  simp only [pw, word4, Nat.add_zero]
  omega
set_option maxHeartbeats 4000000 in
theorem refWords_any (A : Option Addr) (c m : Nat) (l : List Int) (w : World) (hr : RdI w .u8 A l) (hl : l.length = 4 * m) (hm : m ≤ 1000000) (hb : ∀ x ∈ l, 0 ≤ x ∧ x < 256) :
    Calls Try.prog 132 #[.slice A l.length c] w fun e w' => ∃ v, e = .returned (.tuple #[v, .int .i64 0]) ∧ w'.ownsRow w.heap.size 146 1 v m (wv (wordsN l)) ∧ Below w.heap.size w w' := by
  obtain ⟨i0, hi, hz0, hz1, hz2⟩ := info_parts infoU32
  have d1 : (l.length : Int) % 4 = 0 := by omega
  have HL := Lib.hid hl
  clear hl
  go_enter Try.func132, Try.ntmps132
  go_wp2
  clear d1
  go_loopw [4, 5] (fun v i wr => ∃ k : Nat, k ≤ m ∧ i = .int .i64 (4 * k : Nat) ∧ wr.ownsRow w.heap.size 146 1 v ((wordsN (l.take (4 * k))).map (fun n : Nat => (n : Int))).length (((wordsN (l.take (4 * k))).map (fun n : Nat => (n : Int))).map (.int .u32)) ∧ Below w.heap.size w wr) (fun _ i _ => 4 * m + 4 - (intOf i).toNat)
  case atStart => exact ⟨0, Nat.zero_le _, rfl, own_lit0 _ _ _, (by repeat (first | (with_reducible exact bR _) | (with_reducible refine bT ?_ (by assumption)) | (with_reducible apply bA) | (with_reducible apply bD) | (with_reducible apply bN) | (with_reducible refine bS ?_ (by first | omega | (simp; done) | (simp; omega)))))⟩
  case round =>
    obtain ⟨k, hk, rfl, ho, hbl⟩ := hrel
    by_cases hlt : k < m
    · have dl : decide (4 * (k : Int) < (l.length : Int)) = true := decide_eq_true (by have := HL.out; omega)
      have hbo : ∀ j, l.getD (4 * k + j) 0 < 256 := fun j => by
        by_cases h : 4 * k + j < l.length
        · exact (hb _ (getD_mem h)).2
        · rw [List.getD_eq_getElem?_getD, List.getElem?_eq_none (by omega)]; decide
      have HP := Lib.hid (fun j => pw_lt hbo j)
      have HSN := Lib.hid (wordsN_snoc k l (by rw [HL.out]; omega))
      have hlen : ((wordsN (l.take (4 * k))).map (fun n : Nat => (n : Int))).length = k := by rw [List.length_map]; exact wordsN_len k _ (by rw [List.length_take]; have := HL.out; omega)
      obtain ⟨D, hD⟩ : ∃ D, (wordsN (l.take (4 * k))).map (fun n : Nat => (n : Int)) = D := ⟨_, rfl⟩
      rw [hD] at ho hlen
      have HD := Lib.hid hD
      have HLEN := Lib.hid hlen
      clear hD hbo hlen
      go_wp2
      go_loopw [6, 7] (fun x j wr2 => ∃ (q : Nat) (y : Nat), q ≤ 4 ∧ x = .int .u32 (y : Int) ∧ Hid (pw l (4 * k) q = y) ∧ j = .int .i64 (q : Int) ∧ Hid (wr2.ownsRow w.heap.size 146 1 u4 D.length (D.map (.int .u32))) ∧ Hid (Below w.heap.size w wr2)) (fun _ j _ => 4 - (intOf j).toNat)
      case atStart => exact ⟨0, 0, by omega, rfl, Lib.hid rfl, rfl, Lib.hid ho, Lib.hid hbl⟩
      case round =>
        obtain ⟨q, y, hq, rfl, HY, rfl, HO, HB⟩ := hrel
        by_cases hq4 : q < 4
        · obtain ⟨ad, rfl, q0⟩ := (hr.below HB.out).at_ (j := 4 * k + q) (by rw [HL.out]; omega)
          have hx := hb _ (getD_mem (show 4 * k + q < l.length by rw [HL.out]; omega))
          have hy : y < 16777216 := by
            have h1 := HP.out q
            rw [HY.out] at h1
            exact Nat.lt_of_lt_of_le h1 (by have := Nat.pow_le_pow_right (show 0 < 256 by omega) (show q ≤ 3 by omega); simpa using this)
          have hpw : pw l (4 * k) (q + 1) = 256 * y + (l.getD (4 * k + q) 0).toNat := by rw [pw, HY.out]
          have HPW := Lib.hid hpw
          clear hpw
          generalize l.getD (4 * k + q) 0 = x at *
          have n1 : (4 * (k : Int) + (q : Int)).toNat = 4 * k + q := by omega
          have n2 : 4 * (k : Int) + (q : Int) < (l.length : Int) := by have := HL.out; omega
          obtain ⟨z, hz⟩ : ∃ z : Nat, 256 * (y : Int) + x = (z : Int) := ⟨(256 * (y : Int) + x).toNat, by omega⟩
          have hz2 : z < 4294967296 := by omega
          have hzy : 256 * y + x.toNat = z := by omega
          have HZ := Lib.hid hzy
          clear hzy
          go_wp2
          go_roundw
          case rel => exact ⟨q + 1, z, by omega, rfl, Lib.hid (by rw [HPW.out, HZ.out]), by go_num, HO, HB⟩
          case measure => simp [intOf]; omega
        · obtain rfl : q = 4 := by omega
          have HY4 : Hid ([y] = [word4 (l.getD (4 * k) 0) (l.getD (4 * k + 1) 0) (l.getD (4 * k + 2) 0) (l.getD (4 * k + 3) 0)]) := Lib.hid (by rw [← pw_4, HY.out])
          have HSZ := Lib.hid HB.out.size
          go_wp2_with (at_builtin; (refine wpL_app (k := .u32) rfl _ _ 148 rfl w.heap.size 146 i0 (.int .u32 0) 4 Try.underlying148 hi hz0 hz1 hz2 rfl _ D rfl (HO.out.alloc _) _ _ ([(y : Int)]) rfl (RdI.lit1 _ _ _ _) ?_ ?_ ?_ ?_; (focus (have := HLEN.out; refine maxLen_ge ?_; simp only [List.length_cons, List.length_nil]; omega)); (focus (have := HLEN.out; simp only [List.length_cons, List.length_nil]; omega)); (focus (have := HSZ.out; rw [World.size_alloc]; omega)); intro v3 w3 ho3 hg3 _; have HO3 := Lib.hid ho3; have HB3 := Lib.hid (bG (bA HB.out _) hg3 (own_ge HO.out)); clear ho3 hg3 HO HB))
          go_roundw
          case rel => exact ⟨k + 1, by omega, by go_num, by rw [HSN.out, List.map_append, HD.out, ← HY4.out]; exact HO3.out, HB3.out⟩
          case measure => simp [intOf]; omega
    · obtain rfl : k = m := by omega
      have dl : decide (4 * (k : Int) < (l.length : Int)) = false := decide_eq_false (by have := HL.out; omega)
      have ho' := ho
      rw [List.take_of_length_le (by rw [HL.out]; exact Nat.le_refl _)] at ho'
      have HO := Lib.hid ho'
      clear ho ho'
      go_wp2
      go_ret2
      exact ⟨_, rfl, by have h := HO.out; simp only [List.length_map, wordsN_len k l HL.out, List.map_map] at h; exact h, hbl⟩
end Go.Proofs.Ytachkhjbckapoaa

namespace Go.Proofs.Ytachkhjbckapoaa
open Go.RowKit
set_option linter.unusedVariables false
set_option maxRecDepth 100000
set_option linter.unusedSimpArgs false

def kI : List Int := kN.map (fun n : Nat => (n : Int))
set_option maxRecDepth 10000 in
set_option maxHeartbeats 4000000 in
theorem refConst_any (w : World) : Calls Try.prog 152 #[] w fun e w' => e = .returned (.slice (some ⟨w.heap.size, 0, none⟩) 64 64) ∧ RdI w' .u32 (some ⟨w.heap.size, 0, none⟩) kI ∧ Below w.heap.size w w' := by
  go_enter Try.func152, Try.ntmps152
  go_wp2
  go_ret
  refine ⟨rfl, ?_, bel1 w _⟩
  exact RdI.lit w .u32 kI 146
end Go.Proofs.Ytachkhjbckapoaa

namespace Go.Proofs.Ytachkhjbckapoaa
open Go.RowKit
set_option linter.unusedVariables false
set_option maxRecDepth 100000
set_option linter.unusedSimpArgs false

set_option maxHeartbeats 2000000 in
theorem refBegin_any (w : World) : Calls Try.prog 131 #[] w fun e w' => e = .returned (.agg (wv h0N).toArray) ∧ Below w.heap.size w w' := by
  go_enter Try.func131, Try.ntmps131
  go_wp2
  exact ⟨rfl, _, results_cell_row rfl _ _ w.heap.size 147 (wv h0N).toArray (0, 0) _ rfl (heap_alloc_new w _) Try.underlying147 rfl (by kernel_rfl), rfl, bel1 _ _⟩
end Go.Proofs.Ytachkhjbckapoaa

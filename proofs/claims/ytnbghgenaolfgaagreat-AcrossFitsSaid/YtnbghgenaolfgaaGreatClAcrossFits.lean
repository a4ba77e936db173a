/- Layer 21's law AcrossFits, plain: when a barcode can be made a stripe. Layer 21's law AcrossFits, walked. Layer 21's law AcrossFits: its cases put together. The law AcrossFits, as a row: whatever the ring, the bytes, the journey and the key, the call returns true, and its arguments read as before. No condition. -/
import Derived.Test.YtnbghgenaolfgaaGreatZ28
import Derived.Test.YtnbghgenaolfgaaGreatZ29
import Derived.Test.YtnbghgenaolfgaaGreatRows
namespace Go.Proofs.YtnbghgenaolfgaaGreat
open Go.RowKit
set_option linter.unusedVariables false
set_option maxRecDepth 100000
set_option linter.unusedSimpArgs false

theorem swipe_nil : (swipeRd []).2.2 = 14 := by kernel_rfl
theorem findE_of {ks : List Ky} {k : Int} (hr : ringB ks = true) : (∃ q, findE ks k = (some q, 0) ∧ 0 ≤ k ∧ k ≤ 99) ∨ findE ks k = (none, 10) := by
  unfold findE
  rw [if_neg (by rw [hr]; decide)]
  split
  · rename_i h
    split
    · rename_i q _
      exact .inl ⟨q, rfl, h.1, by omega⟩
    · exact .inr rfl
  · exact .inr rfl
theorem across_fits {ks : List Ky} {s : List Int} {a0 a1 a2 a3 a4 a5 a6 a7 a8 a9 a10 a11 a12 a13 a14 k l i : Int} (h : decE ks s = ([a0, a1, a2, a3, a4, a5, a6, a7, a8, a9, a10, a11, a12, a13, a14], 0)) :
    ((strB a0 a1 a2 a3 a4 a5 a6 a7 a8 a9 a10 = true ∧ suB a9 l i = true ∧ (findE ks k).2 = 0) → (toS ks s l i k).2 = 0 ∧ 0 < (toS ks s l i k).1.length) ∧
    (¬ (strB a0 a1 a2 a3 a4 a5 a6 a7 a8 a9 a10 = true ∧ suB a9 l i = true ∧ (findE ks k).2 = 0) → (toS ks s l i k).2 ≠ 0 ∧ (toS ks s l i k).1 = [] ∧ ((toS ks s l i k).2 = 18 ↔ (suB a9 l i = true ∧ 0 ≤ k ∧ k ≤ 99 ∧ strB a0 a1 a2 a3 a4 a5 a6 a7 a8 a9 a10 = false))) := by
  obtain ⟨b0, t0, q0, k0, hr, _⟩ := dec_parts h
  have hT := (decE_small h).1
  have hst : strB a0 a1 a2 a3 a4 a5 a6 a7 a8 a9 a10 = true ↔ a0 ≤ 9999999 ∧ a6 = 0 := by
    unfold strB
    rw [hT]
    simp
  have hstf : strB a0 a1 a2 a3 a4 a5 a6 a7 a8 a9 a10 = false ↔ ¬ (a0 ≤ 9999999 ∧ a6 = 0) := by
    rw [← hst]; simp
  rw [toS_ok h]
  have hE : encS ks [a0, a1, a2, a3, a4, a5, a6, a7, a8, a9, a10, k, l, i, 0] = if (layR true [a0, a1, a2, a3, a4, a5, a6, a7, a8, a9, a10, k, l, i, 0]).2 ≠ 0 then ([], (layR true [a0, a1, a2, a3, a4, a5, a6, a7, a8, a9, a10, k, l, i, 0]).2) else match findE ks k with
      | (none, e) => ([], e)
      | (some q, _) => trackPut ((layR true [a0, a1, a2, a3, a4, a5, a6, a7, a8, a9, a10, k, l, i, 0]).1 ++ tagS q.sec (layR true [a0, a1, a2, a3, a4, a5, a6, a7, a8, a9, a10, k, l, i, 0]).1) := by
    unfold encS
    rw [hr, if_neg (by decide), show tkL [a0, a1, a2, a3, a4, a5, a6, a7, a8, a9, a10, k, l, i, 0] = true from hT]
    rfl
  by_cases hin : suB a9 l i = false ∨ k < 0 ∨ 100 ≤ k
  · have e1 : layR true [a0, a1, a2, a3, a4, a5, a6, a7, a8, a9, a10, k, l, i, 0] = ([], 1) := by
      unfold layR
      rw [if_pos (by
        rcases hin with h | h | h
        · exact .inr (.inl h)
        · exact .inr (.inr (.inl h))
        · exact .inr (.inr (.inr (.inl h))))]
    rw [e1] at hE
    simp only [ne_eq, Int.reduceEq, not_false_eq_true, if_true, Int.reduceNe, ite_true] at hE
    rw [hE]
    refine ⟨fun ⟨_, g2, g3⟩ => ?_, fun _ => ⟨by simp, by simp, ?_⟩⟩
    · rcases findE_of (k := k) hr with ⟨q, g4, g5, g6⟩ | g4
      · rw [g2] at hin; exfalso; rcases hin with g | g | g
        · cases g
        · omega
        · omega
      · rw [g4] at g3; exact absurd g3 (by decide)
    · constructor
      · intro g; simp at g
      · rintro ⟨g1, g2, g3, _⟩; rw [g1] at hin; exfalso; rcases hin with g | g | g
        · cases g
        · omega
        · omega
  · have hS : suB a9 l i = true := by cases g : suB a9 l i <;> simp_all
    have hk : 0 ≤ k ∧ k ≤ 99 := by omega
    have hf := lay_fits a0 a1 a2 a3 a4 a5 a6 a7 a8 a9 a10 k l i hT hS hk
    by_cases hroom : a6 ≠ 0 ∨ 9999999 < a0
    · rw [if_pos hroom] at hf
      rw [hf, if_pos (by decide)] at hE
      rw [hE]
      refine ⟨fun ⟨g1, _, _⟩ => ?_, fun _ => ⟨by simp, by simp, ?_⟩⟩
      · have := hst.1 g1; omega
      · exact ⟨fun _ => ⟨hS, hk.1, hk.2, hstf.2 (by omega)⟩, fun _ => by simp⟩
    · rw [if_neg hroom] at hf
      rw [if_neg (by rw [hf]; decide)] at hE
      have hs1 : strB a0 a1 a2 a3 a4 a5 a6 a7 a8 a9 a10 = true := hst.2 (by omega)
      rcases findE_of (k := k) hr with ⟨q, g4, g5, g6⟩ | g4
      · rw [g4] at hE
        simp only at hE
        have h9 := layR_9 true [a0, a1, a2, a3, a4, a5, a6, a7, a8, a9, a10, k, l, i, 0]
        have h31 : (layR true [a0, a1, a2, a3, a4, a5, a6, a7, a8, a9, a10, k, l, i, 0]).1.length ≤ 31 := layR_31 (T := true) (c := [a0, a1, a2, a3, a4, a5, a6, a7, a8, a9, a10, k, l, i, 0]) (Prod.ext rfl hf)
        have hz : (encS ks [a0, a1, a2, a3, a4, a5, a6, a7, a8, a9, a10, k, l, i, 0]).2 = 0 := by
          rw [hE, trackPut_mk (by rw [List.length_append, tagS_len]; omega) (fun x hx => by
            rcases List.mem_append.1 hx with hx | hx
            · exact h9 x hx
            · exact tagS_9 _ _ x hx)]
        obtain ⟨b, hb⟩ : ∃ b, encS ks [a0, a1, a2, a3, a4, a5, a6, a7, a8, a9, a10, k, l, i, 0] = (b, 0) := ⟨_, Prod.ext rfl hz⟩
        rw [hb]
        obtain ⟨d1, _⟩ := st_back (l := [a0, a1, a2, a3, a4, a5, a6, a7, a8, a9, a10, k, l, i, 0]) rfl hb
        refine ⟨fun _ => ⟨by simp, ?_⟩, fun g => absurd ⟨hs1, hS, by rw [g4]⟩ g⟩
        cases b with
        | nil =>
          have : (decS ks []).2 = 14 := by
            unfold decS
            rw [if_neg (by rw [hr]; decide), if_pos (by rw [swipe_nil]; decide), swipe_nil]
          rw [d1] at this
          exact absurd this (by simp)
        | cons x xs => simp
      · rw [g4] at hE
        simp only at hE
        rw [hE]
        refine ⟨fun ⟨_, _, g⟩ => ?_, fun _ => ⟨by simp, by simp, ?_⟩⟩
        · rw [g4] at g; exact absurd g (by decide)
        · constructor
          · intro g; simp at g
          · rintro ⟨_, _, _, g⟩; rw [hs1] at g; cases g
end Go.Proofs.YtnbghgenaolfgaaGreat

namespace Go.Proofs.YtnbghgenaolfgaaGreat
open Go.RowKit
set_option linter.unusedVariables false
set_option maxRecDepth 100000
set_option linter.unusedSimpArgs false

theorem ac_cells11 {W : World} {g : Nat} {x0 x1 x2 x3 x4 x5 x6 x7 x8 x9 x10 x11 x12 x13 x14 : Value} {T : TypeId} (h : W.heap[g]? = some (.cells #[x0, x1, x2, x3, x4, x5, x6, x7, x8, x9, x10, x11, x12, x13, x14] T (0, 0))) : W.cell? ⟨g, 0, none⟩ = some x0 ∧ W.cell? ⟨g, 1, none⟩ = some x1 ∧ W.cell? ⟨g, 2, none⟩ = some x2 ∧ W.cell? ⟨g, 3, none⟩ = some x3 ∧ W.cell? ⟨g, 4, none⟩ = some x4 ∧ W.cell? ⟨g, 5, none⟩ = some x5 ∧ W.cell? ⟨g, 6, none⟩ = some x6 ∧ W.cell? ⟨g, 7, none⟩ = some x7 ∧ W.cell? ⟨g, 8, none⟩ = some x8 ∧ W.cell? ⟨g, 9, none⟩ = some x9 ∧ W.cell? ⟨g, 10, none⟩ = some x10 :=
  ⟨cell_of_row _ _ 0 _ _ _ h, cell_of_row _ _ 1 _ _ _ h, cell_of_row _ _ 2 _ _ _ h, cell_of_row _ _ 3 _ _ _ h, cell_of_row _ _ 4 _ _ _ h, cell_of_row _ _ 5 _ _ _ h, cell_of_row _ _ 6 _ _ _ h, cell_of_row _ _ 7 _ _ _ h, cell_of_row _ _ 8 _ _ _ h, cell_of_row _ _ 9 _ _ _ h, cell_of_row _ _ 10 _ _ _ h⟩
set_option maxHeartbeats 8000000 in
set_option maxRecDepth 100000 in
theorem acFits_big (A : Option Addr) (c : Nat) (ks : List Ky) (B0 : Option Addr) (cb n m : Nat) (s b : List Int) (a0 a1 a2 a3 a4 a5 a6 a7 a8 a9 a10 a11 a12 a13 a14 l i k z ez : Int) (w : World) (hr : RdK w A ks) (hl : ks.length ≤ 9223372036854775807) (hs : RdI w .u8 B0 s) (HM : Hid (b.length = m))
    (hD : ∀ W, RdK W A ks → RdI W .u8 B0 s → Calls Tryz.prog 31 #[.slice A ks.length c, .slice B0 n cb] W fun e w' => e = .returned (.tuple #[.agg #[.int .i64 a0, .int .i64 a1, .int .i64 a2, .int .i64 a3, .int .i64 a4, .int .i64 a5, .int .i64 a6, .int .i64 a7, .int .i64 a8, .int .i64 a9, .int .i64 a10, .int .i64 a11, .int .i64 a12, .int .i64 a13, .int .i64 a14], .int .i64 ez]) ∧ Below W.heap.size W w')
    (hT : ∀ W, RdK W A ks → RdI W .u8 B0 s → Calls Tryz.prog 28 #[.slice A ks.length c, .slice B0 n cb, .agg #[.int .i64 l, .int .i64 i], .int .i64 k] W (ByteRetE (b, z) W))
    (b1 b2 : Bool) (hbg : bigB ks = b1) (d2 : decide ((2000 : Int) < (n : Int)) = b2) (hany : b1 = true ∨ b2 = true) (b3 : Bool) (d3 : (ez != 0) = b3) :
    Calls Tryz.prog 11 #[.slice A ks.length c, .slice B0 n cb, .agg #[.int .i64 l, .int .i64 i], .int .i64 k] w fun e w' => e = .returned (.bool true) ∧ Below w.heap.size w w' := by
  have B := bel1 w (.cells #[.int .i64 l, .int .i64 i] 26)
  have P : (w.alloc (.cells #[.int .i64 l, .int .i64 i] 26)).heap[w.heap.size]? = some (.cells #[.int .i64 l, .int .i64 i] 26 (0, 0)) := heap_alloc_new w _
  have K := hr.below B (Nat.le_refl _)
  have S := hs.below B
  have hBg := fun W hW => big_any A c ks W hW hl
  have HA := Lib.hid hany
  clear hany
  cases b1 <;> cases b2 <;> first | exact absurd HA.out (by decide) | skip
  all_goals
    go_enter Tryz.func11, Tryz.ntmps11
    go_wp2_with (first | (go_at_call 31; (with_reducible refine (hD _ K S).mono ?_); rintro e w1 ⟨rfl, hb1⟩; have hb := bA hb1 (.cells #[.int .i64 a0, .int .i64 a1, .int .i64 a2, .int .i64 a3, .int .i64 a4, .int .i64 a5, .int .i64 a6, .int .i64 a7, .int .i64 a8, .int .i64 a9, .int .i64 a10, .int .i64 a11, .int .i64 a12, .int .i64 a13, .int .i64 a14] 28); have X : (w1.alloc (.cells #[.int .i64 a0, .int .i64 a1, .int .i64 a2, .int .i64 a3, .int .i64 a4, .int .i64 a5, .int .i64 a6, .int .i64 a7, .int .i64 a8, .int .i64 a9, .int .i64 a10, .int .i64 a11, .int .i64 a12, .int .i64 a13, .int .i64 a14] 28)).heap[w1.heap.size]? = some (.cells #[.int .i64 a0, .int .i64 a1, .int .i64 a2, .int .i64 a3, .int .i64 a4, .int .i64 a5, .int .i64 a6, .int .i64 a7, .int .i64 a8, .int .i64 a9, .int .i64 a10, .int .i64 a11, .int .i64 a12, .int .i64 a13, .int .i64 a14] 28 (0, 0)) := heap_alloc_new w1 _; have K := K.below hb (Nat.le_refl _); have S := S.below hb; have P := (hb.block _ (Array.getElem?_eq_some_iff.1 P).1).trans P; have B := bT B hb; obtain ⟨pc0, pc1, _, _⟩ := ac_cells2 P; clear hb hb1) | (refine wpList_load_row rfl 26 (.tmp 6) rfl w.heap.size rfl 26 #[.int .i64 l, .int .i64 i] (0, 0) _ P Tryz.underlying26 rfl ?_ ?_; (focus (exact infoJn))) | (go_at_call 28; (with_reducible refine (hT _ K S).mono ?_); rintro e w2 ⟨v2, rfl, ho, hb⟩; simp only [HM.out] at ho; obtain ⟨A2, c2, rfl, _, _⟩ := own_slice ho; have K := K.below hb (Nat.le_refl _); have S := S.below hb; have X := (hb.block _ (Array.getElem?_eq_some_iff.1 X).1).trans X; have P := (hb.block _ (Array.getElem?_eq_some_iff.1 P).1).trans P; have B := bT B hb; obtain ⟨xc0, xc1, xc2, xc3, xc4, xc5, xc6, xc7, xc8, xc9, xc10⟩ := ac_cells11 X; obtain ⟨pc0, pc1, _, _⟩ := ac_cells2 P; clear hb; clear ho) | (go_at_call 12; (with_reducible refine (hBg _ K).mono ?_); rintro e w3 ⟨he, rfl⟩; rw [hbg] at he; subst he) | (go_at_call 27; (with_reducible refine (crossed_any _).mono ?_); rintro e w6 ⟨rfl, hb⟩; have K := K.below hb (Nat.le_refl _); have S := S.below hb; have X := (hb.block _ (Array.getElem?_eq_some_iff.1 X).1).trans X; have P := (hb.block _ (Array.getElem?_eq_some_iff.1 P).1).trans P; have B := bT B hb; obtain ⟨xc0, xc1, xc2, xc3, xc4, xc5, xc6, xc7, xc8, xc9, xc10⟩ := ac_cells11 X; obtain ⟨pc0, pc1, _, _⟩ := ac_cells2 P; clear hb))
    go_ret
    exact ⟨rfl, B⟩
set_option maxHeartbeats 8000000 in
set_option maxRecDepth 100000 in
theorem acFits_bad (A : Option Addr) (c : Nat) (ks : List Ky) (B0 : Option Addr) (cb n m : Nat) (s b : List Int) (a0 a1 a2 a3 a4 a5 a6 a7 a8 a9 a10 a11 a12 a13 a14 l i k z ez : Int) (w : World) (hr : RdK w A ks) (hl : ks.length ≤ 9223372036854775807) (hs : RdI w .u8 B0 s) (HM : Hid (b.length = m))
    (hD : ∀ W, RdK W A ks → RdI W .u8 B0 s → Calls Tryz.prog 31 #[.slice A ks.length c, .slice B0 n cb] W fun e w' => e = .returned (.tuple #[.agg #[.int .i64 a0, .int .i64 a1, .int .i64 a2, .int .i64 a3, .int .i64 a4, .int .i64 a5, .int .i64 a6, .int .i64 a7, .int .i64 a8, .int .i64 a9, .int .i64 a10, .int .i64 a11, .int .i64 a12, .int .i64 a13, .int .i64 a14], .int .i64 ez]) ∧ Below W.heap.size W w')
    (hT : ∀ W, RdK W A ks → RdI W .u8 B0 s → Calls Tryz.prog 28 #[.slice A ks.length c, .slice B0 n cb, .agg #[.int .i64 l, .int .i64 i], .int .i64 k] W (ByteRetE (b, z) W))
    (hbg : bigB ks = false) (d2 : decide ((2000 : Int) < (n : Int)) = false) (d3 : (ez != 0) = true) (hzz : (z == ez) = true) (hm : m = 0) :
    Calls Tryz.prog 11 #[.slice A ks.length c, .slice B0 n cb, .agg #[.int .i64 l, .int .i64 i], .int .i64 k] w fun e w' => e = .returned (.bool true) ∧ Below w.heap.size w w' := by
  have B := bel1 w (.cells #[.int .i64 l, .int .i64 i] 26)
  have P : (w.alloc (.cells #[.int .i64 l, .int .i64 i] 26)).heap[w.heap.size]? = some (.cells #[.int .i64 l, .int .i64 i] 26 (0, 0)) := heap_alloc_new w _
  have K := hr.below B (Nat.le_refl _)
  have S := hs.below B
  have hBg := fun W hW => big_any A c ks W hW hl
  subst hm
  go_enter Tryz.func11, Tryz.ntmps11
  go_wp2_with (first | (go_at_call 31; (with_reducible refine (hD _ K S).mono ?_); rintro e w1 ⟨rfl, hb1⟩; have hb := bA hb1 (.cells #[.int .i64 a0, .int .i64 a1, .int .i64 a2, .int .i64 a3, .int .i64 a4, .int .i64 a5, .int .i64 a6, .int .i64 a7, .int .i64 a8, .int .i64 a9, .int .i64 a10, .int .i64 a11, .int .i64 a12, .int .i64 a13, .int .i64 a14] 28); have X : (w1.alloc (.cells #[.int .i64 a0, .int .i64 a1, .int .i64 a2, .int .i64 a3, .int .i64 a4, .int .i64 a5, .int .i64 a6, .int .i64 a7, .int .i64 a8, .int .i64 a9, .int .i64 a10, .int .i64 a11, .int .i64 a12, .int .i64 a13, .int .i64 a14] 28)).heap[w1.heap.size]? = some (.cells #[.int .i64 a0, .int .i64 a1, .int .i64 a2, .int .i64 a3, .int .i64 a4, .int .i64 a5, .int .i64 a6, .int .i64 a7, .int .i64 a8, .int .i64 a9, .int .i64 a10, .int .i64 a11, .int .i64 a12, .int .i64 a13, .int .i64 a14] 28 (0, 0)) := heap_alloc_new w1 _; have K := K.below hb (Nat.le_refl _); have S := S.below hb; have P := (hb.block _ (Array.getElem?_eq_some_iff.1 P).1).trans P; have B := bT B hb; obtain ⟨pc0, pc1, _, _⟩ := ac_cells2 P; clear hb hb1) | (refine wpList_load_row rfl 26 (.tmp 6) rfl w.heap.size rfl 26 #[.int .i64 l, .int .i64 i] (0, 0) _ P Tryz.underlying26 rfl ?_ ?_; (focus (exact infoJn))) | (go_at_call 28; (with_reducible refine (hT _ K S).mono ?_); rintro e w2 ⟨v2, rfl, ho, hb⟩; simp only [HM.out] at ho; obtain ⟨A2, c2, rfl, _, _⟩ := own_slice ho; have K := K.below hb (Nat.le_refl _); have S := S.below hb; have X := (hb.block _ (Array.getElem?_eq_some_iff.1 X).1).trans X; have P := (hb.block _ (Array.getElem?_eq_some_iff.1 P).1).trans P; have B := bT B hb; obtain ⟨xc0, xc1, xc2, xc3, xc4, xc5, xc6, xc7, xc8, xc9, xc10⟩ := ac_cells11 X; obtain ⟨pc0, pc1, _, _⟩ := ac_cells2 P; clear hb; clear ho) | (go_at_call 12; (with_reducible refine (hBg _ K).mono ?_); rintro e w3 ⟨he, rfl⟩; rw [hbg] at he; subst he) | (go_at_call 27; (with_reducible refine (crossed_any _).mono ?_); rintro e w6 ⟨rfl, hb⟩; have K := K.below hb (Nat.le_refl _); have S := S.below hb; have X := (hb.block _ (Array.getElem?_eq_some_iff.1 X).1).trans X; have P := (hb.block _ (Array.getElem?_eq_some_iff.1 P).1).trans P; have B := bT B hb; obtain ⟨xc0, xc1, xc2, xc3, xc4, xc5, xc6, xc7, xc8, xc9, xc10⟩ := ac_cells11 X; obtain ⟨pc0, pc1, _, _⟩ := ac_cells2 P; clear hb))
  go_ret
  exact ⟨by simp, B⟩
set_option maxHeartbeats 8000000 in
set_option maxRecDepth 100000 in
theorem acFits_yes (A : Option Addr) (c : Nat) (ks : List Ky) (B0 : Option Addr) (cb n m : Nat) (s b : List Int) (a0 a1 a2 a3 a4 a5 a6 a7 a8 a9 a10 a11 a12 a13 a14 l i k z ez : Int) (w : World) (hr : RdK w A ks) (hl : ks.length ≤ 9223372036854775807) (hs : RdI w .u8 B0 s) (HM : Hid (b.length = m))
    (hD : ∀ W, RdK W A ks → RdI W .u8 B0 s → Calls Tryz.prog 31 #[.slice A ks.length c, .slice B0 n cb] W fun e w' => e = .returned (.tuple #[.agg #[.int .i64 a0, .int .i64 a1, .int .i64 a2, .int .i64 a3, .int .i64 a4, .int .i64 a5, .int .i64 a6, .int .i64 a7, .int .i64 a8, .int .i64 a9, .int .i64 a10, .int .i64 a11, .int .i64 a12, .int .i64 a13, .int .i64 a14], .int .i64 0]) ∧ Below W.heap.size W w')
    (hT : ∀ W, RdK W A ks → RdI W .u8 B0 s → Calls Tryz.prog 28 #[.slice A ks.length c, .slice B0 n cb, .agg #[.int .i64 l, .int .i64 i], .int .i64 k] W (ByteRetE (b, z) W))
    (hbg : bigB ks = false) (d2 : decide ((2000 : Int) < (n : Int)) = false) (gz : Int) (hF : ∀ W, RdK W A ks → Calls Tryz.prog 32 #[.slice A ks.length c, .int .i64 k] W fun e w' => ∃ (x0 x2 x3 : Int) (Bk : Option Addr) (nk ck : Nat), e = .returned (.tuple #[.agg #[.int .i64 x0, .slice Bk nk ck, .int .i64 x2, .int .i64 x3], .int .i64 gz]) ∧ Below W.heap.size W w')
    (hst : strB a0 a1 a2 a3 a4 a5 a6 a7 a8 a9 a10 = true) (hsu : suB a9 l i = true) (hg : (gz == 0) = true) (hz : (z == 0) = true) (hm : decide ((0 : Int) < (m : Int)) = true) :
    Calls Tryz.prog 11 #[.slice A ks.length c, .slice B0 n cb, .agg #[.int .i64 l, .int .i64 i], .int .i64 k] w fun e w' => e = .returned (.bool true) ∧ Below w.heap.size w w' := by
  have B := bel1 w (.cells #[.int .i64 l, .int .i64 i] 26)
  have P : (w.alloc (.cells #[.int .i64 l, .int .i64 i] 26)).heap[w.heap.size]? = some (.cells #[.int .i64 l, .int .i64 i] 26 (0, 0)) := heap_alloc_new w _
  have K := hr.below B (Nat.le_refl _)
  have S := hs.below B
  have hBg := fun W hW => big_any A c ks W hW hl
  skip
  all_goals
    go_enter Tryz.func11, Tryz.ntmps11
    go_wp2_with (first | (go_at_call 31; (with_reducible refine (hD _ K S).mono ?_); rintro e w1 ⟨rfl, hb1⟩; have hb := bA hb1 (.cells #[.int .i64 a0, .int .i64 a1, .int .i64 a2, .int .i64 a3, .int .i64 a4, .int .i64 a5, .int .i64 a6, .int .i64 a7, .int .i64 a8, .int .i64 a9, .int .i64 a10, .int .i64 a11, .int .i64 a12, .int .i64 a13, .int .i64 a14] 28); have X : (w1.alloc (.cells #[.int .i64 a0, .int .i64 a1, .int .i64 a2, .int .i64 a3, .int .i64 a4, .int .i64 a5, .int .i64 a6, .int .i64 a7, .int .i64 a8, .int .i64 a9, .int .i64 a10, .int .i64 a11, .int .i64 a12, .int .i64 a13, .int .i64 a14] 28)).heap[w1.heap.size]? = some (.cells #[.int .i64 a0, .int .i64 a1, .int .i64 a2, .int .i64 a3, .int .i64 a4, .int .i64 a5, .int .i64 a6, .int .i64 a7, .int .i64 a8, .int .i64 a9, .int .i64 a10, .int .i64 a11, .int .i64 a12, .int .i64 a13, .int .i64 a14] 28 (0, 0)) := heap_alloc_new w1 _; have K := K.below hb (Nat.le_refl _); have S := S.below hb; have P := (hb.block _ (Array.getElem?_eq_some_iff.1 P).1).trans P; have B := bT B hb; obtain ⟨pc0, pc1, _, _⟩ := ac_cells2 P; clear hb hb1) | (refine wpList_load_row rfl 26 (.tmp 6) rfl w.heap.size rfl 26 #[.int .i64 l, .int .i64 i] (0, 0) _ P Tryz.underlying26 rfl ?_ ?_; (focus (exact infoJn))) | (go_at_call 28; (with_reducible refine (hT _ K S).mono ?_); rintro e w2 ⟨v2, rfl, ho, hb⟩; simp only [HM.out] at ho; obtain ⟨A2, c2, rfl, _, _⟩ := own_slice ho; have K := K.below hb (Nat.le_refl _); have S := S.below hb; have X := (hb.block _ (Array.getElem?_eq_some_iff.1 X).1).trans X; have P := (hb.block _ (Array.getElem?_eq_some_iff.1 P).1).trans P; have B := bT B hb; obtain ⟨xc0, xc1, xc2, xc3, xc4, xc5, xc6, xc7, xc8, xc9, xc10⟩ := ac_cells11 X; obtain ⟨pc0, pc1, _, _⟩ := ac_cells2 P; clear hb; clear ho) | (go_at_call 12; (with_reducible refine (hBg _ K).mono ?_); rintro e w3 ⟨he, rfl⟩; rw [hbg] at he; subst he) | (go_at_call 27; (with_reducible refine (crossed_any _).mono ?_); rintro e w6 ⟨rfl, hb⟩; have K := K.below hb (Nat.le_refl _); have S := S.below hb; have X := (hb.block _ (Array.getElem?_eq_some_iff.1 X).1).trans X; have P := (hb.block _ (Array.getElem?_eq_some_iff.1 P).1).trans P; have B := bT B hb; obtain ⟨xc0, xc1, xc2, xc3, xc4, xc5, xc6, xc7, xc8, xc9, xc10⟩ := ac_cells11 X; obtain ⟨pc0, pc1, _, _⟩ := ac_cells2 P; clear hb) | (go_at_call 32; (with_reducible refine (hF _ K).mono ?_); rintro e w5 ⟨x0, x2, x3, Bk, nk, ck, rfl, hb5⟩; have hb := bA hb5 (.cells #[.int .i64 x0, .slice Bk nk ck, .int .i64 x2, .int .i64 x3] 56); have K := K.below hb (Nat.le_refl _); have S := S.below hb; have X := (hb.block _ (Array.getElem?_eq_some_iff.1 X).1).trans X; have P := (hb.block _ (Array.getElem?_eq_some_iff.1 P).1).trans P; have B := bT B hb; obtain ⟨xc0, xc1, xc2, xc3, xc4, xc5, xc6, xc7, xc8, xc9, xc10⟩ := ac_cells11 X; obtain ⟨pc0, pc1, _, _⟩ := ac_cells2 P; clear hb; clear hb5) | (go_at_call 33; (with_reducible refine (stripe_any a0 a1 a2 a3 a4 a5 a6 a7 a8 a9 a10 _).mono ?_); rintro e w7 ⟨he, hb⟩; rw [hst] at he; subst he; have K := K.below hb (Nat.le_refl _); have S := S.below hb; have X := (hb.block _ (Array.getElem?_eq_some_iff.1 X).1).trans X; have P := (hb.block _ (Array.getElem?_eq_some_iff.1 P).1).trans P; have B := bT B hb; obtain ⟨xc0, xc1, xc2, xc3, xc4, xc5, xc6, xc7, xc8, xc9, xc10⟩ := ac_cells11 X; obtain ⟨pc0, pc1, _, _⟩ := ac_cells2 P; clear hb) | (go_at_call 34; (with_reducible refine (suits_any a0 a1 a2 a3 a4 a5 a6 a7 a8 a9 a10 _ _ _).mono ?_); rintro e w8 ⟨he, hb⟩; rw [hsu] at he; subst he; have K := K.below hb (Nat.le_refl _); have S := S.below hb; have X := (hb.block _ (Array.getElem?_eq_some_iff.1 X).1).trans X; have P := (hb.block _ (Array.getElem?_eq_some_iff.1 P).1).trans P; have B := bT B hb; obtain ⟨xc0, xc1, xc2, xc3, xc4, xc5, xc6, xc7, xc8, xc9, xc10⟩ := ac_cells11 X; obtain ⟨pc0, pc1, _, _⟩ := ac_cells2 P; clear hb))
    go_ret
    exact ⟨by first | (simp; done) | (simp; have := of_decide_eq_true hm; omega), B⟩
set_option maxHeartbeats 8000000 in
set_option maxRecDepth 100000 in
theorem acFits_n1 (A : Option Addr) (c : Nat) (ks : List Ky) (B0 : Option Addr) (cb n m : Nat) (s b : List Int) (a0 a1 a2 a3 a4 a5 a6 a7 a8 a9 a10 a11 a12 a13 a14 l i k z ez : Int) (w : World) (hr : RdK w A ks) (hl : ks.length ≤ 9223372036854775807) (hs : RdI w .u8 B0 s) (HM : Hid (b.length = m))
    (hD : ∀ W, RdK W A ks → RdI W .u8 B0 s → Calls Tryz.prog 31 #[.slice A ks.length c, .slice B0 n cb] W fun e w' => e = .returned (.tuple #[.agg #[.int .i64 a0, .int .i64 a1, .int .i64 a2, .int .i64 a3, .int .i64 a4, .int .i64 a5, .int .i64 a6, .int .i64 a7, .int .i64 a8, .int .i64 a9, .int .i64 a10, .int .i64 a11, .int .i64 a12, .int .i64 a13, .int .i64 a14], .int .i64 0]) ∧ Below W.heap.size W w')
    (hT : ∀ W, RdK W A ks → RdI W .u8 B0 s → Calls Tryz.prog 28 #[.slice A ks.length c, .slice B0 n cb, .agg #[.int .i64 l, .int .i64 i], .int .i64 k] W (ByteRetE (b, z) W))
    (hbg : bigB ks = false) (d2 : decide ((2000 : Int) < (n : Int)) = false) (gz : Int) (hF : ∀ W, RdK W A ks → Calls Tryz.prog 32 #[.slice A ks.length c, .int .i64 k] W fun e w' => ∃ (x0 x2 x3 : Int) (Bk : Option Addr) (nk ck : Nat), e = .returned (.tuple #[.agg #[.int .i64 x0, .slice Bk nk ck, .int .i64 x2, .int .i64 x3], .int .i64 gz]) ∧ Below W.heap.size W w')
    (st : Bool) (hst : strB a0 a1 a2 a3 a4 a5 a6 a7 a8 a9 a10 = st) (hsu : suB a9 l i = false) (hz : (z != 0) = true) (hm : m = 0) (h18 : (z == 18) = false) :
    Calls Tryz.prog 11 #[.slice A ks.length c, .slice B0 n cb, .agg #[.int .i64 l, .int .i64 i], .int .i64 k] w fun e w' => e = .returned (.bool true) ∧ Below w.heap.size w w' := by
  have B := bel1 w (.cells #[.int .i64 l, .int .i64 i] 26)
  have P : (w.alloc (.cells #[.int .i64 l, .int .i64 i] 26)).heap[w.heap.size]? = some (.cells #[.int .i64 l, .int .i64 i] 26 (0, 0)) := heap_alloc_new w _
  have K := hr.below B (Nat.le_refl _)
  have S := hs.below B
  have hBg := fun W hW => big_any A c ks W hW hl
  subst hm
  cases st
  all_goals
    go_enter Tryz.func11, Tryz.ntmps11
    go_wp2_with (first | (go_at_call 31; (with_reducible refine (hD _ K S).mono ?_); rintro e w1 ⟨rfl, hb1⟩; have hb := bA hb1 (.cells #[.int .i64 a0, .int .i64 a1, .int .i64 a2, .int .i64 a3, .int .i64 a4, .int .i64 a5, .int .i64 a6, .int .i64 a7, .int .i64 a8, .int .i64 a9, .int .i64 a10, .int .i64 a11, .int .i64 a12, .int .i64 a13, .int .i64 a14] 28); have X : (w1.alloc (.cells #[.int .i64 a0, .int .i64 a1, .int .i64 a2, .int .i64 a3, .int .i64 a4, .int .i64 a5, .int .i64 a6, .int .i64 a7, .int .i64 a8, .int .i64 a9, .int .i64 a10, .int .i64 a11, .int .i64 a12, .int .i64 a13, .int .i64 a14] 28)).heap[w1.heap.size]? = some (.cells #[.int .i64 a0, .int .i64 a1, .int .i64 a2, .int .i64 a3, .int .i64 a4, .int .i64 a5, .int .i64 a6, .int .i64 a7, .int .i64 a8, .int .i64 a9, .int .i64 a10, .int .i64 a11, .int .i64 a12, .int .i64 a13, .int .i64 a14] 28 (0, 0)) := heap_alloc_new w1 _; have K := K.below hb (Nat.le_refl _); have S := S.below hb; have P := (hb.block _ (Array.getElem?_eq_some_iff.1 P).1).trans P; have B := bT B hb; obtain ⟨pc0, pc1, _, _⟩ := ac_cells2 P; clear hb hb1) | (refine wpList_load_row rfl 26 (.tmp 6) rfl w.heap.size rfl 26 #[.int .i64 l, .int .i64 i] (0, 0) _ P Tryz.underlying26 rfl ?_ ?_; (focus (exact infoJn))) | (go_at_call 28; (with_reducible refine (hT _ K S).mono ?_); rintro e w2 ⟨v2, rfl, ho, hb⟩; simp only [HM.out] at ho; obtain ⟨A2, c2, rfl, _, _⟩ := own_slice ho; have K := K.below hb (Nat.le_refl _); have S := S.below hb; have X := (hb.block _ (Array.getElem?_eq_some_iff.1 X).1).trans X; have P := (hb.block _ (Array.getElem?_eq_some_iff.1 P).1).trans P; have B := bT B hb; obtain ⟨xc0, xc1, xc2, xc3, xc4, xc5, xc6, xc7, xc8, xc9, xc10⟩ := ac_cells11 X; obtain ⟨pc0, pc1, _, _⟩ := ac_cells2 P; clear hb; clear ho) | (go_at_call 12; (with_reducible refine (hBg _ K).mono ?_); rintro e w3 ⟨he, rfl⟩; rw [hbg] at he; subst he) | (go_at_call 27; (with_reducible refine (crossed_any _).mono ?_); rintro e w6 ⟨rfl, hb⟩; have K := K.below hb (Nat.le_refl _); have S := S.below hb; have X := (hb.block _ (Array.getElem?_eq_some_iff.1 X).1).trans X; have P := (hb.block _ (Array.getElem?_eq_some_iff.1 P).1).trans P; have B := bT B hb; obtain ⟨xc0, xc1, xc2, xc3, xc4, xc5, xc6, xc7, xc8, xc9, xc10⟩ := ac_cells11 X; obtain ⟨pc0, pc1, _, _⟩ := ac_cells2 P; clear hb) | (go_at_call 32; (with_reducible refine (hF _ K).mono ?_); rintro e w5 ⟨x0, x2, x3, Bk, nk, ck, rfl, hb5⟩; have hb := bA hb5 (.cells #[.int .i64 x0, .slice Bk nk ck, .int .i64 x2, .int .i64 x3] 56); have K := K.below hb (Nat.le_refl _); have S := S.below hb; have X := (hb.block _ (Array.getElem?_eq_some_iff.1 X).1).trans X; have P := (hb.block _ (Array.getElem?_eq_some_iff.1 P).1).trans P; have B := bT B hb; obtain ⟨xc0, xc1, xc2, xc3, xc4, xc5, xc6, xc7, xc8, xc9, xc10⟩ := ac_cells11 X; obtain ⟨pc0, pc1, _, _⟩ := ac_cells2 P; clear hb; clear hb5) | (go_at_call 33; (with_reducible refine (stripe_any a0 a1 a2 a3 a4 a5 a6 a7 a8 a9 a10 _).mono ?_); rintro e w7 ⟨he, hb⟩; rw [hst] at he; subst he; have K := K.below hb (Nat.le_refl _); have S := S.below hb; have X := (hb.block _ (Array.getElem?_eq_some_iff.1 X).1).trans X; have P := (hb.block _ (Array.getElem?_eq_some_iff.1 P).1).trans P; have B := bT B hb; obtain ⟨xc0, xc1, xc2, xc3, xc4, xc5, xc6, xc7, xc8, xc9, xc10⟩ := ac_cells11 X; obtain ⟨pc0, pc1, _, _⟩ := ac_cells2 P; clear hb) | (go_at_call 34; (with_reducible refine (suits_any a0 a1 a2 a3 a4 a5 a6 a7 a8 a9 a10 _ _ _).mono ?_); rintro e w8 ⟨he, hb⟩; rw [hsu] at he; subst he; have K := K.below hb (Nat.le_refl _); have S := S.below hb; have X := (hb.block _ (Array.getElem?_eq_some_iff.1 X).1).trans X; have P := (hb.block _ (Array.getElem?_eq_some_iff.1 P).1).trans P; have B := bT B hb; obtain ⟨xc0, xc1, xc2, xc3, xc4, xc5, xc6, xc7, xc8, xc9, xc10⟩ := ac_cells11 X; obtain ⟨pc0, pc1, _, _⟩ := ac_cells2 P; clear hb))
    go_ret
    exact ⟨by first | (simp; done) | (simp; have := of_decide_eq_true hm; omega), B⟩
set_option maxHeartbeats 8000000 in
set_option maxRecDepth 100000 in
theorem acFits_n2t (A : Option Addr) (c : Nat) (ks : List Ky) (B0 : Option Addr) (cb n m : Nat) (s b : List Int) (a0 a1 a2 a3 a4 a5 a6 a7 a8 a9 a10 a11 a12 a13 a14 l i k z ez : Int) (w : World) (hr : RdK w A ks) (hl : ks.length ≤ 9223372036854775807) (hs : RdI w .u8 B0 s) (HM : Hid (b.length = m))
    (hD : ∀ W, RdK W A ks → RdI W .u8 B0 s → Calls Tryz.prog 31 #[.slice A ks.length c, .slice B0 n cb] W fun e w' => e = .returned (.tuple #[.agg #[.int .i64 a0, .int .i64 a1, .int .i64 a2, .int .i64 a3, .int .i64 a4, .int .i64 a5, .int .i64 a6, .int .i64 a7, .int .i64 a8, .int .i64 a9, .int .i64 a10, .int .i64 a11, .int .i64 a12, .int .i64 a13, .int .i64 a14], .int .i64 0]) ∧ Below W.heap.size W w')
    (hT : ∀ W, RdK W A ks → RdI W .u8 B0 s → Calls Tryz.prog 28 #[.slice A ks.length c, .slice B0 n cb, .agg #[.int .i64 l, .int .i64 i], .int .i64 k] W (ByteRetE (b, z) W))
    (hbg : bigB ks = false) (d2 : decide ((2000 : Int) < (n : Int)) = false) (gz : Int) (hF : ∀ W, RdK W A ks → Calls Tryz.prog 32 #[.slice A ks.length c, .int .i64 k] W fun e w' => ∃ (x0 x2 x3 : Int) (Bk : Option Addr) (nk ck : Nat), e = .returned (.tuple #[.agg #[.int .i64 x0, .slice Bk nk ck, .int .i64 x2, .int .i64 x3], .int .i64 gz]) ∧ Below W.heap.size W w')
    (hst : strB a0 a1 a2 a3 a4 a5 a6 a7 a8 a9 a10 = true) (hsu : suB a9 l i = true) (hg : (gz == 0) = false) (hz : (z != 0) = true) (hm : m = 0) (h18 : (z == 18) = false) (q0 q1 : Bool) (dk0 : decide ((0 : Int) ≤ k) = q0) (dk1 : decide (k ≤ 99) = q1)  :
    Calls Tryz.prog 11 #[.slice A ks.length c, .slice B0 n cb, .agg #[.int .i64 l, .int .i64 i], .int .i64 k] w fun e w' => e = .returned (.bool true) ∧ Below w.heap.size w w' := by
  have B := bel1 w (.cells #[.int .i64 l, .int .i64 i] 26)
  have P : (w.alloc (.cells #[.int .i64 l, .int .i64 i] 26)).heap[w.heap.size]? = some (.cells #[.int .i64 l, .int .i64 i] 26 (0, 0)) := heap_alloc_new w _
  have K := hr.below B (Nat.le_refl _)
  have S := hs.below B
  have hBg := fun W hW => big_any A c ks W hW hl
  subst hm
  cases q0 <;> cases q1
  all_goals
    go_enter Tryz.func11, Tryz.ntmps11
    go_wp2_with (first | (go_at_call 31; (with_reducible refine (hD _ K S).mono ?_); rintro e w1 ⟨rfl, hb1⟩; have hb := bA hb1 (.cells #[.int .i64 a0, .int .i64 a1, .int .i64 a2, .int .i64 a3, .int .i64 a4, .int .i64 a5, .int .i64 a6, .int .i64 a7, .int .i64 a8, .int .i64 a9, .int .i64 a10, .int .i64 a11, .int .i64 a12, .int .i64 a13, .int .i64 a14] 28); have X : (w1.alloc (.cells #[.int .i64 a0, .int .i64 a1, .int .i64 a2, .int .i64 a3, .int .i64 a4, .int .i64 a5, .int .i64 a6, .int .i64 a7, .int .i64 a8, .int .i64 a9, .int .i64 a10, .int .i64 a11, .int .i64 a12, .int .i64 a13, .int .i64 a14] 28)).heap[w1.heap.size]? = some (.cells #[.int .i64 a0, .int .i64 a1, .int .i64 a2, .int .i64 a3, .int .i64 a4, .int .i64 a5, .int .i64 a6, .int .i64 a7, .int .i64 a8, .int .i64 a9, .int .i64 a10, .int .i64 a11, .int .i64 a12, .int .i64 a13, .int .i64 a14] 28 (0, 0)) := heap_alloc_new w1 _; have K := K.below hb (Nat.le_refl _); have S := S.below hb; have P := (hb.block _ (Array.getElem?_eq_some_iff.1 P).1).trans P; have B := bT B hb; obtain ⟨pc0, pc1, _, _⟩ := ac_cells2 P; clear hb hb1) | (refine wpList_load_row rfl 26 (.tmp 6) rfl w.heap.size rfl 26 #[.int .i64 l, .int .i64 i] (0, 0) _ P Tryz.underlying26 rfl ?_ ?_; (focus (exact infoJn))) | (go_at_call 28; (with_reducible refine (hT _ K S).mono ?_); rintro e w2 ⟨v2, rfl, ho, hb⟩; simp only [HM.out] at ho; obtain ⟨A2, c2, rfl, _, _⟩ := own_slice ho; have K := K.below hb (Nat.le_refl _); have S := S.below hb; have X := (hb.block _ (Array.getElem?_eq_some_iff.1 X).1).trans X; have P := (hb.block _ (Array.getElem?_eq_some_iff.1 P).1).trans P; have B := bT B hb; obtain ⟨xc0, xc1, xc2, xc3, xc4, xc5, xc6, xc7, xc8, xc9, xc10⟩ := ac_cells11 X; obtain ⟨pc0, pc1, _, _⟩ := ac_cells2 P; clear hb; clear ho) | (go_at_call 12; (with_reducible refine (hBg _ K).mono ?_); rintro e w3 ⟨he, rfl⟩; rw [hbg] at he; subst he) | (go_at_call 27; (with_reducible refine (crossed_any _).mono ?_); rintro e w6 ⟨rfl, hb⟩; have K := K.below hb (Nat.le_refl _); have S := S.below hb; have X := (hb.block _ (Array.getElem?_eq_some_iff.1 X).1).trans X; have P := (hb.block _ (Array.getElem?_eq_some_iff.1 P).1).trans P; have B := bT B hb; obtain ⟨xc0, xc1, xc2, xc3, xc4, xc5, xc6, xc7, xc8, xc9, xc10⟩ := ac_cells11 X; obtain ⟨pc0, pc1, _, _⟩ := ac_cells2 P; clear hb) | (go_at_call 32; (with_reducible refine (hF _ K).mono ?_); rintro e w5 ⟨x0, x2, x3, Bk, nk, ck, rfl, hb5⟩; have hb := bA hb5 (.cells #[.int .i64 x0, .slice Bk nk ck, .int .i64 x2, .int .i64 x3] 56); have K := K.below hb (Nat.le_refl _); have S := S.below hb; have X := (hb.block _ (Array.getElem?_eq_some_iff.1 X).1).trans X; have P := (hb.block _ (Array.getElem?_eq_some_iff.1 P).1).trans P; have B := bT B hb; obtain ⟨xc0, xc1, xc2, xc3, xc4, xc5, xc6, xc7, xc8, xc9, xc10⟩ := ac_cells11 X; obtain ⟨pc0, pc1, _, _⟩ := ac_cells2 P; clear hb; clear hb5) | (go_at_call 33; (with_reducible refine (stripe_any a0 a1 a2 a3 a4 a5 a6 a7 a8 a9 a10 _).mono ?_); rintro e w7 ⟨he, hb⟩; rw [hst] at he; subst he; have K := K.below hb (Nat.le_refl _); have S := S.below hb; have X := (hb.block _ (Array.getElem?_eq_some_iff.1 X).1).trans X; have P := (hb.block _ (Array.getElem?_eq_some_iff.1 P).1).trans P; have B := bT B hb; obtain ⟨xc0, xc1, xc2, xc3, xc4, xc5, xc6, xc7, xc8, xc9, xc10⟩ := ac_cells11 X; obtain ⟨pc0, pc1, _, _⟩ := ac_cells2 P; clear hb) | (go_at_call 34; (with_reducible refine (suits_any a0 a1 a2 a3 a4 a5 a6 a7 a8 a9 a10 _ _ _).mono ?_); rintro e w8 ⟨he, hb⟩; rw [hsu] at he; subst he; have K := K.below hb (Nat.le_refl _); have S := S.below hb; have X := (hb.block _ (Array.getElem?_eq_some_iff.1 X).1).trans X; have P := (hb.block _ (Array.getElem?_eq_some_iff.1 P).1).trans P; have B := bT B hb; obtain ⟨xc0, xc1, xc2, xc3, xc4, xc5, xc6, xc7, xc8, xc9, xc10⟩ := ac_cells11 X; obtain ⟨pc0, pc1, _, _⟩ := ac_cells2 P; clear hb))
    go_ret
    exact ⟨by first | (simp; done) | (simp; have := of_decide_eq_true hm; omega), B⟩
set_option maxHeartbeats 8000000 in
set_option maxRecDepth 100000 in
theorem acFits_n2f (A : Option Addr) (c : Nat) (ks : List Ky) (B0 : Option Addr) (cb n m : Nat) (s b : List Int) (a0 a1 a2 a3 a4 a5 a6 a7 a8 a9 a10 a11 a12 a13 a14 l i k z ez : Int) (w : World) (hr : RdK w A ks) (hl : ks.length ≤ 9223372036854775807) (hs : RdI w .u8 B0 s) (HM : Hid (b.length = m))
    (hD : ∀ W, RdK W A ks → RdI W .u8 B0 s → Calls Tryz.prog 31 #[.slice A ks.length c, .slice B0 n cb] W fun e w' => e = .returned (.tuple #[.agg #[.int .i64 a0, .int .i64 a1, .int .i64 a2, .int .i64 a3, .int .i64 a4, .int .i64 a5, .int .i64 a6, .int .i64 a7, .int .i64 a8, .int .i64 a9, .int .i64 a10, .int .i64 a11, .int .i64 a12, .int .i64 a13, .int .i64 a14], .int .i64 0]) ∧ Below W.heap.size W w')
    (hT : ∀ W, RdK W A ks → RdI W .u8 B0 s → Calls Tryz.prog 28 #[.slice A ks.length c, .slice B0 n cb, .agg #[.int .i64 l, .int .i64 i], .int .i64 k] W (ByteRetE (b, z) W))
    (hbg : bigB ks = false) (d2 : decide ((2000 : Int) < (n : Int)) = false) (gz : Int) (hF : ∀ W, RdK W A ks → Calls Tryz.prog 32 #[.slice A ks.length c, .int .i64 k] W fun e w' => ∃ (x0 x2 x3 : Int) (Bk : Option Addr) (nk ck : Nat), e = .returned (.tuple #[.agg #[.int .i64 x0, .slice Bk nk ck, .int .i64 x2, .int .i64 x3], .int .i64 gz]) ∧ Below W.heap.size W w')
    (hst : strB a0 a1 a2 a3 a4 a5 a6 a7 a8 a9 a10 = false) (hsu : suB a9 l i = true) (hz : (z != 0) = true) (hm : m = 0) (q0 q1 : Bool) (dk0 : decide ((0 : Int) ≤ k) = q0) (dk1 : decide (k ≤ 99) = q1) (h18 : (z == 18) = (q0 && q1)) :
    Calls Tryz.prog 11 #[.slice A ks.length c, .slice B0 n cb, .agg #[.int .i64 l, .int .i64 i], .int .i64 k] w fun e w' => e = .returned (.bool true) ∧ Below w.heap.size w w' := by
  have B := bel1 w (.cells #[.int .i64 l, .int .i64 i] 26)
  have P : (w.alloc (.cells #[.int .i64 l, .int .i64 i] 26)).heap[w.heap.size]? = some (.cells #[.int .i64 l, .int .i64 i] 26 (0, 0)) := heap_alloc_new w _
  have K := hr.below B (Nat.le_refl _)
  have S := hs.below B
  have hBg := fun W hW => big_any A c ks W hW hl
  subst hm
  cases q0 <;> cases q1 <;> simp only [Bool.and_true, Bool.and_false, Bool.and_self] at h18
  all_goals
    go_enter Tryz.func11, Tryz.ntmps11
    go_wp2_with (first | (go_at_call 31; (with_reducible refine (hD _ K S).mono ?_); rintro e w1 ⟨rfl, hb1⟩; have hb := bA hb1 (.cells #[.int .i64 a0, .int .i64 a1, .int .i64 a2, .int .i64 a3, .int .i64 a4, .int .i64 a5, .int .i64 a6, .int .i64 a7, .int .i64 a8, .int .i64 a9, .int .i64 a10, .int .i64 a11, .int .i64 a12, .int .i64 a13, .int .i64 a14] 28); have X : (w1.alloc (.cells #[.int .i64 a0, .int .i64 a1, .int .i64 a2, .int .i64 a3, .int .i64 a4, .int .i64 a5, .int .i64 a6, .int .i64 a7, .int .i64 a8, .int .i64 a9, .int .i64 a10, .int .i64 a11, .int .i64 a12, .int .i64 a13, .int .i64 a14] 28)).heap[w1.heap.size]? = some (.cells #[.int .i64 a0, .int .i64 a1, .int .i64 a2, .int .i64 a3, .int .i64 a4, .int .i64 a5, .int .i64 a6, .int .i64 a7, .int .i64 a8, .int .i64 a9, .int .i64 a10, .int .i64 a11, .int .i64 a12, .int .i64 a13, .int .i64 a14] 28 (0, 0)) := heap_alloc_new w1 _; have K := K.below hb (Nat.le_refl _); have S := S.below hb; have P := (hb.block _ (Array.getElem?_eq_some_iff.1 P).1).trans P; have B := bT B hb; obtain ⟨pc0, pc1, _, _⟩ := ac_cells2 P; clear hb hb1) | (refine wpList_load_row rfl 26 (.tmp 6) rfl w.heap.size rfl 26 #[.int .i64 l, .int .i64 i] (0, 0) _ P Tryz.underlying26 rfl ?_ ?_; (focus (exact infoJn))) | (go_at_call 28; (with_reducible refine (hT _ K S).mono ?_); rintro e w2 ⟨v2, rfl, ho, hb⟩; simp only [HM.out] at ho; obtain ⟨A2, c2, rfl, _, _⟩ := own_slice ho; have K := K.below hb (Nat.le_refl _); have S := S.below hb; have X := (hb.block _ (Array.getElem?_eq_some_iff.1 X).1).trans X; have P := (hb.block _ (Array.getElem?_eq_some_iff.1 P).1).trans P; have B := bT B hb; obtain ⟨xc0, xc1, xc2, xc3, xc4, xc5, xc6, xc7, xc8, xc9, xc10⟩ := ac_cells11 X; obtain ⟨pc0, pc1, _, _⟩ := ac_cells2 P; clear hb; clear ho) | (go_at_call 12; (with_reducible refine (hBg _ K).mono ?_); rintro e w3 ⟨he, rfl⟩; rw [hbg] at he; subst he) | (go_at_call 27; (with_reducible refine (crossed_any _).mono ?_); rintro e w6 ⟨rfl, hb⟩; have K := K.below hb (Nat.le_refl _); have S := S.below hb; have X := (hb.block _ (Array.getElem?_eq_some_iff.1 X).1).trans X; have P := (hb.block _ (Array.getElem?_eq_some_iff.1 P).1).trans P; have B := bT B hb; obtain ⟨xc0, xc1, xc2, xc3, xc4, xc5, xc6, xc7, xc8, xc9, xc10⟩ := ac_cells11 X; obtain ⟨pc0, pc1, _, _⟩ := ac_cells2 P; clear hb) | (go_at_call 32; (with_reducible refine (hF _ K).mono ?_); rintro e w5 ⟨x0, x2, x3, Bk, nk, ck, rfl, hb5⟩; have hb := bA hb5 (.cells #[.int .i64 x0, .slice Bk nk ck, .int .i64 x2, .int .i64 x3] 56); have K := K.below hb (Nat.le_refl _); have S := S.below hb; have X := (hb.block _ (Array.getElem?_eq_some_iff.1 X).1).trans X; have P := (hb.block _ (Array.getElem?_eq_some_iff.1 P).1).trans P; have B := bT B hb; obtain ⟨xc0, xc1, xc2, xc3, xc4, xc5, xc6, xc7, xc8, xc9, xc10⟩ := ac_cells11 X; obtain ⟨pc0, pc1, _, _⟩ := ac_cells2 P; clear hb; clear hb5) | (go_at_call 33; (with_reducible refine (stripe_any a0 a1 a2 a3 a4 a5 a6 a7 a8 a9 a10 _).mono ?_); rintro e w7 ⟨he, hb⟩; rw [hst] at he; subst he; have K := K.below hb (Nat.le_refl _); have S := S.below hb; have X := (hb.block _ (Array.getElem?_eq_some_iff.1 X).1).trans X; have P := (hb.block _ (Array.getElem?_eq_some_iff.1 P).1).trans P; have B := bT B hb; obtain ⟨xc0, xc1, xc2, xc3, xc4, xc5, xc6, xc7, xc8, xc9, xc10⟩ := ac_cells11 X; obtain ⟨pc0, pc1, _, _⟩ := ac_cells2 P; clear hb) | (go_at_call 34; (with_reducible refine (suits_any a0 a1 a2 a3 a4 a5 a6 a7 a8 a9 a10 _ _ _).mono ?_); rintro e w8 ⟨he, hb⟩; rw [hsu] at he; subst he; have K := K.below hb (Nat.le_refl _); have S := S.below hb; have X := (hb.block _ (Array.getElem?_eq_some_iff.1 X).1).trans X; have P := (hb.block _ (Array.getElem?_eq_some_iff.1 P).1).trans P; have B := bT B hb; obtain ⟨xc0, xc1, xc2, xc3, xc4, xc5, xc6, xc7, xc8, xc9, xc10⟩ := ac_cells11 X; obtain ⟨pc0, pc1, _, _⟩ := ac_cells2 P; clear hb))
    go_ret
    exact ⟨by first | (simp; done) | (simp; have := of_decide_eq_true hm; omega), B⟩
end Go.Proofs.YtnbghgenaolfgaaGreat

namespace Go.Proofs.YtnbghgenaolfgaaGreat
open Go.RowKit
set_option linter.unusedVariables false
set_option maxRecDepth 100000
set_option linter.unusedSimpArgs false

theorem findX (A : Option Addr) (c : Nat) (ks : List Ky) (k : Int) (hl : ks.length ≤ 9223372036854775807) : ∀ W, RdK W A ks → Calls Tryz.prog 32 #[.slice A ks.length c, .int .i64 k] W fun e w' => ∃ (x0 x2 x3 : Int) (Bk : Option Addr) (nk ck : Nat), e = .returned (.tuple #[.agg #[.int .i64 x0, .slice Bk nk ck, .int .i64 x2, .int .i64 x3], .int .i64 (findE ks k).2]) ∧ Below W.heap.size W w' := by
  intro W hW
  refine (ringFind_any A c ks k W W hW (bR _) hl).mono ?_
  rintro e w' ⟨⟨B, c2, rfl, _⟩, hb⟩
  cases hf : (findE ks k).1 with
  | none => exact ⟨0, 0, 0, none, 0, 0, rfl, hb⟩
  | some q => exact ⟨q.id, q.fr, q.til, B, q.sec.length, c2, rfl, hb⟩
theorem acFits_any (A : Option Addr) (c : Nat) (ks : List Ky) (B : Option Addr) (cb : Nat) (s : List Int) (l i k : Int) (w : World) (hr : RdK w A ks) (hl : ks.length ≤ 9223372036854775807) (hs : RdI w .u8 B s) (hsc : s.length ≤ cb) (hs9 : cb ≤ 9223372036854775807) (hsb : ∀ x ∈ s, 0 ≤ x ∧ x < 256) (hsl : s.length ≤ 140737488351232) (hk : k ≤ 9223372036854775807) (hl9 : l ≤ 9223372036854775807) (hi9 : i ≤ 9223372036854775807) :
    Calls Tryz.prog 11 #[.slice A ks.length c, .slice B s.length cb, .agg #[.int .i64 l, .int .i64 i], .int .i64 k] w fun e w' => e = .returned (.bool true) ∧ Below w.heap.size w w' := by
  obtain ⟨a0, a1, a2, a3, a4, a5, a6, a7, a8, a9, a10, a11, a12, a13, a14, h15⟩ := len15x (decE_lenx ks s)
  have hT := fun W h1 h2 => toStripe_any A c ks B cb s l i k W h1 hl h2 hsc hs9 hsb hsl hk hl9 hi9
  have hD : ∀ W, RdK W A ks → RdI W .u8 B s → Calls Tryz.prog 31 #[.slice A ks.length c, .slice B s.length cb] W fun e w' => e = .returned (.tuple #[.agg #[.int .i64 a0, .int .i64 a1, .int .i64 a2, .int .i64 a3, .int .i64 a4, .int .i64 a5, .int .i64 a6, .int .i64 a7, .int .i64 a8, .int .i64 a9, .int .i64 a10, .int .i64 a11, .int .i64 a12, .int .i64 a13, .int .i64 a14], .int .i64 (decE ks s).2]) ∧ Below W.heap.size W w' := by
    intro W g1 g2
    have h := bcDecode_any A c ks B cb s W g1 hl g2 hsc hs9 hsb hsl
    unfold DCRet at h
    rw [h15] at h
    exact h
  by_cases hany : bigB ks = true ∨ decide ((2000 : Int) < (s.length : Int)) = true
  · exact acFits_big A c ks B cb s.length _ s (toS ks s l i k).1 a0 a1 a2 a3 a4 a5 a6 a7 a8 a9 a10 a11 a12 a13 a14 l i k (toS ks s l i k).2 (decE ks s).2 w hr hl hs (Lib.hid rfl) hD hT _ _ rfl rfl hany _ rfl
  have h1 : bigB ks = false := by cases h : bigB ks <;> simp_all
  have h2 : decide ((2000 : Int) < (s.length : Int)) = false := by cases h : decide ((2000 : Int) < (s.length : Int)) <;> simp_all
  by_cases hz : (decE ks s).2 = 0
  rotate_left
  · have hb := toS_bad (l := l) (i := i) (k := k) hz
    rw [hb] at hT
    exact acFits_bad A c ks B cb s.length 0 s [] a0 a1 a2 a3 a4 a5 a6 a7 a8 a9 a10 a11 a12 a13 a14 l i k _ (decE ks s).2 w hr hl hs (Lib.hid rfl) hD hT h1 h2 (by simpa using hz) (by simp) rfl
  have h : decE ks s = ([a0, a1, a2, a3, a4, a5, a6, a7, a8, a9, a10, a11, a12, a13, a14], 0) := Prod.ext h15 hz
  rw [hz] at hD
  have hF := findX A c ks k hl
  obtain ⟨hA, hB⟩ := across_fits (k := k) (l := l) (i := i) h
  generalize toS ks s l i k = r at *
  obtain ⟨b, z⟩ := r
  simp only at hA hB
  by_cases hc : strB a0 a1 a2 a3 a4 a5 a6 a7 a8 a9 a10 = true ∧ suB a9 l i = true ∧ (findE ks k).2 = 0
  · obtain ⟨g1, g2⟩ := hA hc
    exact acFits_yes A c ks B cb s.length b.length s b a0 a1 a2 a3 a4 a5 a6 a7 a8 a9 a10 a11 a12 a13 a14 l i k z 0 w hr hl hs (Lib.hid rfl) hD hT h1 h2 _ hF hc.1 hc.2.1 (by rw [hc.2.2]; rfl) (by simpa using g1) (decide_eq_true (by omega))
  · obtain ⟨g1, g2, g3⟩ := hB hc
    have hzn : (z != 0) = true := by simpa using g1
    have hm : b.length = 0 := by rw [g2]; rfl
    cases hsu : suB a9 l i with
    | false =>
      have h18 : (z == 18) = false := by
        cases g : (z == 18)
        · rfl
        · have := g3.1 (by simpa using g); rw [hsu] at this; exact absurd this.1 (by decide)
      exact acFits_n1 A c ks B cb s.length b.length s b a0 a1 a2 a3 a4 a5 a6 a7 a8 a9 a10 a11 a12 a13 a14 l i k z 0 w hr hl hs (Lib.hid rfl) hD hT h1 h2 _ hF _ rfl hsu hzn hm h18
    | true =>
      cases hst : strB a0 a1 a2 a3 a4 a5 a6 a7 a8 a9 a10 with
      | true =>
        have h18 : (z == 18) = false := by
          cases g : (z == 18)
          · rfl
          · have := g3.1 (by simpa using g); rw [hst] at this; exact absurd this.2.2.2 (by decide)
        have hg : ((findE ks k).2 == 0) = false := by
          cases g : ((findE ks k).2 == 0)
          · rfl
          · exact absurd ⟨hst, hsu, by simpa using g⟩ hc
        exact acFits_n2t A c ks B cb s.length b.length s b a0 a1 a2 a3 a4 a5 a6 a7 a8 a9 a10 a11 a12 a13 a14 l i k z 0 w hr hl hs (Lib.hid rfl) hD hT h1 h2 _ hF hst hsu hg hzn hm h18 _ _ rfl rfl
      | false =>
        have h18 : (z == 18) = (decide ((0 : Int) ≤ k) && decide (k ≤ 99)) := by
          rw [Bool.eq_iff_iff]
          simp only [beq_iff_eq, Bool.and_eq_true, decide_eq_true_eq]
          rw [g3, hsu, hst]
          simp
        exact acFits_n2f A c ks B cb s.length b.length s b a0 a1 a2 a3 a4 a5 a6 a7 a8 a9 a10 a11 a12 a13 a14 l i k z 0 w hr hl hs (Lib.hid rfl) hD hT h1 h2 _ hF hst hsu hzn hm _ _ rfl rfl h18
end Go.Proofs.YtnbghgenaolfgaaGreat

namespace Go.Proofs.YtnbghgenaolfgaaGreat.acrossFits
open Go.ChangeShapes Go.WideShapes Go.ChangeAt Go.RowKit
open Go.ChangeMaps (open_string shut_string)
set_option linter.unusedVariables false
set_option maxRecDepth 100000
theorem own : ownKnob Tryz.prog.godebug = none := by kernel_rfl
theorem laidOut : laidOutB Tryz.prog = true := by kernel_rfl
set_option maxRecDepth 100000 in
theorem lifted (os : Os) (started : os.Started) (H : Type) (enc : TypeId × Value → H) :
    ReturnsInHanded {} Tryz.checked os 11 .any (Rows.acrossFitsSpec.pre6 enc Tryz.prog Tryz.f11 Rows.acrossFitsRow.domain false) (Rows.acrossFitsSpec.post enc Tryz.prog Tryz.f11 false true false false) := by
  refine returnsInHanded_of_change_sized (C := Tryz.checked) own started (by kernel_rfl) Tryz.func11
    (ChangeSpec.witness6 (enc := enc) (C := Tryz.checked) false ⟨#[], #[.slice none 0 0, .slice none 0 0, .agg #[.int .i64 0, .int .i64 0], .int .i64 0], []⟩ 8 (by kernel_rfl) (by kernel_rfl) (by kernel_rfl) (by kernel_rfl)) ?_
  intro W base args ds gs before hval0 hW hcnd hsz0 _
  have hsz : (DataW.weightsEach Tryz.prog (Tryz.f11.params.toList ++ Rows.acrossFitsSpec.plain.varTypes Tryz.prog) (ds ++ gs)).all (· ≤ reachBytes) = true := hsz0
  have hval : ∀ (j : Nat) t v, Tryz.f11.params[j]? = some t → args[j]? = some v → Value.okWide Tryz.prog W .any base t v := hval0
  have hW' := hW
  obtain ⟨p, q, hA0, hV, rfl, hfz, hnd⟩ := hW
  have hA : DataW.TrodAll enc Tryz.prog W 0 (fun _ => true) true Tryz.f11.params.toList args.toList ds p := hA0
  rw [Tryz.params11] at hA hval hsz
  obtain ⟨v0, vs0, d0, ds0, p0, q0, hargs, rfl, rfl, h0, r0⟩ := trodAll_cons hA
  obtain ⟨v1, vs1, d1, ds1, p1, q1, rfl, rfl, rfl, h1, r1⟩ := trodAll_cons r0
  obtain ⟨v2, vs2, d2, ds2, p2, q2, rfl, rfl, rfl, h2, r2⟩ := trodAll_cons r1
  obtain ⟨v3, vs3, d3, ds3, p3, q3, rfl, rfl, rfl, h3, r3⟩ := trodAll_cons r2
  obtain ⟨rfl, rfl, rfl⟩ := trodAll_nil r3
  obtain rfl : args = #[v0, v1, v2, v3] := by cases args; simp_all
  obtain ⟨rfl, rfl⟩ := trodVars_none hV
  obtain ⟨A0, len0, cap0, rfl⟩ := okWide_slice Tryz.underlying22 (hval 0 22 v0 rfl rfl)
  have k0 := h0
  have lt0 : ∀ x ∈ p0, x.block < W.heap.size := by obtain ⟨m, hm⟩ := k0; exact DataW.trod_lt m _ _ _ hm
  obtain ⟨ks0, rfl, hr0, hl0⟩ : ∃ ks : List Ky, len0 = ks.length ∧ RdK W A0 ks ∧ ks.length ≤ 9223372036854775807 := by
    obtain ⟨fuel, hf⟩ := h0
    exact keys_open hf
  obtain ⟨a1, len1, cap1, rfl⟩ := okWide_slice Tryz.underlying30 (hval 1 30 v1 rfl rfl)
  have k1 := h1
  have lt1 : ∀ x ∈ p1, x.block < W.heap.size := by obtain ⟨m, hm⟩ := k1; exact DataW.trod_lt m _ _ _ hm
  obtain ⟨z1, w1⟩ : ∃ zs, IsRow .u8 W a1 len1 cap1 zs := by
    obtain ⟨fuel, hf⟩ := h1
    rcases open_ints Tryz.underlying30 Tryz.underlying5 (by kernel_rfl) hf with ⟨hcs, _⟩ | ⟨x, l, c, zs, hcs, _, hl, hm, hz, _, hcell, hwz⟩
    · simp [Value.cells] at hcs
      obtain ⟨rfl, rfl, rfl⟩ := hcs
      exact ⟨[], .inl ⟨rfl, rfl, rfl, rfl⟩⟩
    · simp [Value.cells] at hcs
      obtain ⟨rfl, rfl, rfl⟩ := hcs
      exact ⟨zs, .inr ⟨_, rfl, hl, hm, by simpa using hz, hcell, hwz⟩⟩
  have hs1 : len1 ≤ 140737488351232 := by
    obtain ⟨fuel, hf⟩ := k1
    exact ints_sized Tryz.underlying30 Tryz.underlying5 (by kernel_rfl) (by kernel_rfl) hf hsz (j := 1) rfl rfl
  obtain ⟨hq1, hm1⟩ := row_caps w1
  obtain ⟨b1, rfl, hr1, hl1, hw1⟩ := rd_of_row w1
  have k2 := h2
  have lt2 : ∀ x ∈ p2, x.block < W.heap.size := by obtain ⟨m, hm⟩ := k2; exact DataW.trod_lt m _ _ _ hm
  obtain ⟨cs2, rfl, hc2⟩ := okWide_struct Tryz.underlying26 (hval 2 26 v2 rfl rfl)
  obtain ⟨l2⟩ := cs2
  obtain ⟨fu2, hf2⟩ := h2
  have L2 := open_leaves 6 26 (by kernel_rfl) fu2 _ _ (by simpa [Value.cells] using hc2) hf2
  rw [show leavesOf Tryz.prog 6 26 = [3, 3] from by kernel_rfl] at L2
  simp only [Value.cells] at L2
  obtain ⟨c2_0, m2_0, rfl, g2_0, L2⟩ := Lv_cons L2
  obtain ⟨c2_1, m2_1, rfl, g2_1, L2⟩ := Lv_cons L2
  obtain rfl := Lv_nil L2
  obtain ⟨a2_0, rfl, w2_0⟩ := leaf_int Tryz.underlying3 g2_0
  obtain ⟨a2_1, rfl, w2_1⟩ := leaf_int Tryz.underlying3 g2_1
  obtain ⟨a3, rfl, rfl, rfl, w3⟩ := open_int Tryz.underlying3 (hval 3 3 v3 rfl rfl) h3
  clear hA0 hval0 hsz0 hsz
  refine (acFits_any A0 cap0 ks0 a1 cap1 b1 a2_0 a2_1 a3 W hr0 hl0 hr1 hq1 hm1 (wfu8 hw1) hs1 (wf64 w3).2 (wf64 w2_0).2 (wf64 w2_1).2).mono fun e W' ⟨he, bel⟩ => ?_
  subst he
  exact ⟨_, rfl, _, _, _, [], _, [], hW', trodAll_mk1 (shut_bool Tryz.underlying4 _), (trodAll_cons_mk (Below.trod laidOut (by kernel_rfl) (of_decide_eq_true (by kernel_rfl)) k0 bel lt0) (trodAll_cons_mk (Below.trod laidOut (by kernel_rfl) (of_decide_eq_true (by kernel_rfl)) k1 bel lt1) (trodAll_cons_mk (Below.trod laidOut (by kernel_rfl) (of_decide_eq_true (by kernel_rfl)) k2 bel lt2) (trodAll_cons_mk (shut_int Tryz.underlying3 w3) trodAll_mk0)))), rfl, bel.frame _, fun h => by cases h⟩
theorem over : Rows.acrossFitsRow.holds Tryz.pinned (OpenSpec.ofChange Rows.acrossFitsSpec) :=
  OpenClaim.holds_of_wide 11 Tryz.f11 rfl rfl rfl rfl rfl rfl rfl ⟨rfl, rfl, rfl, rfl, rfl⟩ rfl rfl rfl rfl rfl (by kernel_rfl) Tryz.func11 (by kernel_rfl)
    (of_decide_eq_true (by kernel_rfl)) (by unfold Func.isWrapper; first | (rw [if_pos (by decide +kernel)]; kernel_rfl) | (rw [if_neg (by decide +kernel)]; exact ⟨rfl, rfl⟩))
    (fun os started H enc _ => lifted os started H enc)
theorem proved : Rows.AcrossFitsSaid := over
#print axioms proved
end Go.Proofs.YtnbghgenaolfgaaGreat.acrossFits
namespace Go.Proofs.YtnbghgenaolfgaaGreat
theorem acrossFits_holds : Rows.AcrossFitsSaid := acrossFits.proved
end Go.Proofs.YtnbghgenaolfgaaGreat


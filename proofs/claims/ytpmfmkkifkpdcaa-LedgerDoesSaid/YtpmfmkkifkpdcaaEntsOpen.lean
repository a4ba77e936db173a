/- An argument that is a slice of entries: it reads as a list of entries. No condition. -/
import Derived.Test.YtpmfmkkifkpdcaaLedRow
import Derived.ChangeArms
import Derived.DataReads
namespace Go.Proofs.Ytpmfmkkifkpdcaa
open Go.RowKit
set_option linter.unusedVariables false
set_option maxRecDepth 100000
set_option linter.unusedSimpArgs false

theorem ent_cells {H : Type} {enc : TypeId × Value → H} {W : World} {n : Nat} {cs : List Value} {x : DataW H × List MemPlace} (hl : cs.length = 14) (h : DataW.trod enc Try.prog W 0 (fun _ => true) true n 37 cs = some x) :
    ∃ e : En, cs = e.row ∧ (Lit.int .i64 e.a0).wf = true := by
  have L := open_leaves 6 37 (by kernel_rfl) n _ _ (by rw [hl]; kernel_rfl) h
  rw [show leavesOf Try.prog 6 37 = [3, 3, 3, 3, 3, 3, 3, 3, 3, 3, 3, 3, 3, 4] from by kernel_rfl] at L
  obtain ⟨c0, m0, rfl, g0, L⟩ := Lv_cons L
  obtain ⟨c1, m1, rfl, g1, L⟩ := Lv_cons L
  obtain ⟨c2, m2, rfl, g2, L⟩ := Lv_cons L
  obtain ⟨c3, m3, rfl, g3, L⟩ := Lv_cons L
  obtain ⟨c4, m4, rfl, g4, L⟩ := Lv_cons L
  obtain ⟨c5, m5, rfl, g5, L⟩ := Lv_cons L
  obtain ⟨c6, m6, rfl, g6, L⟩ := Lv_cons L
  obtain ⟨c7, m7, rfl, g7, L⟩ := Lv_cons L
  obtain ⟨c8, m8, rfl, g8, L⟩ := Lv_cons L
  obtain ⟨c9, m9, rfl, g9, L⟩ := Lv_cons L
  obtain ⟨c10, m10, rfl, g10, L⟩ := Lv_cons L
  obtain ⟨c11, m11, rfl, g11, L⟩ := Lv_cons L
  obtain ⟨c12, m12, rfl, g12, L⟩ := Lv_cons L
  obtain ⟨c13, m13, rfl, g13, L⟩ := Lv_cons L
  obtain rfl := Lv_nil L
  obtain ⟨n0, rfl, w0⟩ := leaf_int Try.underlying3 g0
  obtain ⟨n1, rfl, w1⟩ := leaf_int Try.underlying3 g1
  obtain ⟨n2, rfl, w2⟩ := leaf_int Try.underlying3 g2
  obtain ⟨n3, rfl, w3⟩ := leaf_int Try.underlying3 g3
  obtain ⟨n4, rfl, w4⟩ := leaf_int Try.underlying3 g4
  obtain ⟨n5, rfl, w5⟩ := leaf_int Try.underlying3 g5
  obtain ⟨n6, rfl, w6⟩ := leaf_int Try.underlying3 g6
  obtain ⟨n7, rfl, w7⟩ := leaf_int Try.underlying3 g7
  obtain ⟨n8, rfl, w8⟩ := leaf_int Try.underlying3 g8
  obtain ⟨n9, rfl, w9⟩ := leaf_int Try.underlying3 g9
  obtain ⟨n10, rfl, w10⟩ := leaf_int Try.underlying3 g10
  obtain ⟨n11, rfl, w11⟩ := leaf_int Try.underlying3 g11
  obtain ⟨n12, rfl, w12⟩ := leaf_int Try.underlying3 g12
  obtain ⟨b, rfl⟩ := leaf_bool Try.underlying4 g13
  exact ⟨⟨n0, n1, n2, n3, n4, n5, n6, n7, n8, n9, n10, n11, n12, b⟩, rfl, w0⟩
theorem ents_upto {w : World} {a : Addr} {Q : En → Prop} : ∀ (n : Nat), (∀ j, j < n → ∃ k, EnAt w (a.add (j * 14)) k ∧ Q k) → ∃ l : List En, l.length = n ∧ (∀ j, (h : j < l.length) → EnAt w (a.add (j * 14)) l[j]) ∧ ∀ e ∈ l, Q e
  | 0, _ => ⟨[], rfl, fun j h => by simp at h, fun e he => by cases he⟩
  | n + 1, h => by
    obtain ⟨l, hl, hk, hq⟩ := ents_upto n (fun j hj => h j (by omega))
    obtain ⟨k, hkn, hqk⟩ := h n (by omega)
    refine ⟨l ++ [k], by simp [hl], fun j hj => ?_, fun e he => ?_⟩
    · rw [List.length_append] at hj
      by_cases hjl : j < l.length
      · rw [List.getElem_append_left hjl]; exact hk j hjl
      · have : j = n := by simp at hj; omega
        subst this
        rw [List.getElem_append_right (by omega)]
        simpa [hl] using hkn
    · rcases List.mem_append.1 he with he | he
      · exact hq e he
      · rw [List.mem_singleton.1 he]; exact hqk
theorem ents_open {H : Type} {enc : TypeId × Value → H} {W : World} {n : Nat} {A : Option Addr} {len cap : Nat} {x : DataW H × List MemPlace} (h : DataW.trod enc Try.prog W 0 (fun _ => true) true n 22 [.slice A len cap] = some x) :
    ∃ S : List En, len = S.length ∧ RdE W A S ∧ S.length ≤ 9223372036854775807 ∧ ∀ e ∈ S, (Lit.int .i64 e.a0).wf = true := by
  rcases DataW.trod_slice Try.underlying22 h with ⟨hcs, _⟩ | ⟨a, len2, cap2, elems, rest, m, _, hcs, _, _, hle, hmx, hel, hat, _⟩
  · simp only [List.cons.injEq, Value.slice.injEq, and_true] at hcs
    obtain ⟨rfl, rfl, rfl⟩ := hcs
    exact ⟨[], rfl, .inl rfl, by simp, fun e he => by cases he⟩
  · simp only [List.cons.injEq, Value.slice.injEq, and_true] at hcs
    obtain ⟨rfl, rfl, rfl⟩ := hcs
    have hc4 : Try.prog.cellsOf 37 = 14 := by kernel_rfl
    rw [hc4] at hat
    have hk : ∀ j, j < len → ∃ k, EnAt W (a.add (j * 14)) k ∧ (Lit.int .i64 k.a0).wf = true := by
      intro j hj
      have e := hat j hj
      rw [List.getElem?_eq_getElem (by omega)] at e
      obtain ⟨cs, e1, e2⟩ := Option.bind_eq_some_iff.1 e
      obtain ⟨_, f2, f3⟩ := World.cells?_some e1
      obtain ⟨k, rfl, hw⟩ := ent_cells f2 e2
      refine ⟨k, ⟨?_, fun c v hv => ?_⟩, hw⟩
      · have g0 := f3 0 (by omega)
        rw [add_zero] at g0
        exact g0
      · have hc : c + 1 < 14 := by
          have := (List.getElem?_eq_some_iff.1 hv).1
          rwa [En.row_len] at this
        have g1 := f3 (c + 1) (by first | exact hc | (rw [En.row_len]; exact hc))
        rw [add_succ] at g1
        rw [g1]
        rw [← hv, List.getElem?_eq_getElem (by rw [En.row_len]; exact hc)] <;> rfl
    obtain ⟨S, hkl, hks, hq⟩ := ents_upto len hk
    unfold maxLen at hmx
    refine ⟨S, hkl.symm, ?_, by omega, hq⟩
    by_cases h0 : len = 0
    · left; exact List.eq_nil_of_length_eq_zero (by omega)
    · obtain ⟨k, ⟨g0, _⟩, _⟩ := hk 0 (by omega)
      have := World.block_lt_of_cell? W _ g0
      rw [add_block] at this
      exact .inr ⟨a, rfl, this, hks⟩
end Go.Proofs.Ytpmfmkkifkpdcaa

/- Layer 2: bytes are filled up to whole blocks, by the program. Condition: not more than some 2^46 bytes. -/
import Derived.Test.YtiogogbkgekkdaaShaBytes
import Derived.Test.YtiogogbkgekkdaaAppz
import Derived.WalkSpells
namespace Go.Proofs.Ytiogogbkgekkdaa
open Go.RowKit
set_option linter.unusedVariables false
set_option maxRecDepth 100000
set_option linter.unusedSimpArgs false

def zerosN (n : Nat) : Nat := (119 - n % 64) % 64
def padN (l : List Int) : List Int := l ++ [128] ++ List.replicate (zerosN l.length) 0 ++ bytesN [8 * l.length / 4294967296 % 4294967296, 8 * l.length % 4294967296]
theorem padN_len (l : List Int) : (padN l).length % 64 = 0 ∧ (padN l).length ≤ l.length + 72 := by
  unfold padN zerosN
  simp only [List.length_append, List.length_cons, List.length_nil, List.length_replicate, bytesN_len]
  omega
theorem padN_byte {l : List Int} (h : ∀ x ∈ l, 0 ≤ x ∧ x < 256) : ∀ x ∈ padN l, 0 ≤ x ∧ x < 256 := by
  intro x hx
  unfold padN at hx
  simp only [List.mem_append] at hx
  rcases hx with ((hx | hx) | hx) | hx
  · exact h x hx
  · simp at hx; subst hx; omega
  · rw [List.eq_of_mem_replicate hx]; omega
  · refine bytesN_byte _ ?_ x hx
    intro y hy
    simp at hy
    omega

theorem clone_any (A : Option Addr) (c : Nat) (l : List Int) (w : World) (hr : RdI w .u8 A l) (hl : l.length ≤ 140737488355000) :
    Calls Try.prog 166 #[.slice A l.length c] w fun e w' => ∃ v, e = .returned v ∧ w'.ownsRow w.heap.size 5 1 v l.length (l.map (.int .u8)) ∧ Below w.heap.size w w' := by
  obtain ⟨i0, hi, hz0, hz1, hz2⟩ := info_parts infoB8
  have hn := fun W : World => Lib.run_eql_slice_nil (P := Try.prog) W 24 5 A l.length c 0 0 Try.underlying24
  cases A with
  | none =>
    have hz : l = [] := by
      rcases hr with h | ⟨ad, h, _⟩
      · exact h
      · cases h
    subst hz
    have hn2 := fun W : World => Lib.run_eql_slice_nil (P := Try.prog) W 24 5 none 0 c 0 0 Try.underlying24
    simp only [List.length_nil]
    go_enter Try.func166, Try.ntmps166
    go_wp2
    go_ret
    exact ⟨_, rfl, World.ownsRow_nil _ _ _ _, bR _⟩
  | some ad =>
    go_enter Try.func166, Try.ntmps166
    go_wp2_with (at_builtin; refine wpL_app (k := .u8) rfl _ _ 24 rfl w.heap.size 5 i0 (.int .u8 0) 1 Try.underlying24 hi hz0 hz1 hz2 rfl _ ([]) rfl (own_lit0 _ _ _) _ _ (l) rfl (hr.below (bel1 _ _)) ?_ ?_ ?_ ?_; (focus (unfold maxLen; simp; omega)); (focus ((simp; omega))); (focus (first | (simp; done) | (simp; omega))); intro v2 w2 ho2 hg2 _)
    have h2 := bG (bel1 w _) hg2 (fun k h => by have := ob_slice h; omega)
    have HO2 := Lib.hid ho2
    clear hg2 ho2
    go_wp2
    go_ret
    exact ⟨_, rfl, by have h := HO2.out; simpa using h, h2⟩

set_option maxHeartbeats 4000000 in
theorem pad_any (A : Option Addr) (c : Nat) (l : List Int) (w : World) (hr : RdI w .u8 A l) (hl : l.length ≤ 70368744177664) :
    Calls Try.prog 150 #[.slice A l.length c] w fun e w' => ∃ v, e = .returned v ∧ w'.ownsRow w.heap.size 5 1 v (padN l).length ((padN l).map (.int .u8)) ∧ Below w.heap.size w w' := by
  obtain ⟨i0, hi, hz0, hz1, hz2⟩ := info_parts infoB8
  have d1 : (l.length : Int) % 64 = ((l.length % 64 : Nat) : Int) := by simp
  obtain ⟨r, hr0⟩ : ∃ r, l.length % 64 = r := ⟨_, rfl⟩
  obtain ⟨z, hz⟩ : ∃ z, (119 - r) % 64 = z := ⟨_, rfl⟩
  rw [hr0] at d1
  have hrl : r < 64 := by omega
  have hzl : z < 64 := by omega
  have d2 : (119 - (r : Int)) % 64 = (z : Int) := by omega
  have d3 : IntKind.u64.wrap (l.length : Int) = (l.length : Int) := by rw [IntKind.wrap_u64]; omega
  have d4 : IntKind.u64.wrap ((l.length : Int) * 8) = 8 * (l.length : Int) := by rw [IntKind.wrap_u64]; omega
  have HZ : Hid (zerosN l.length = z) := Lib.hid (by unfold zerosN; rw [hr0, hz])
  clear hz hr0
  go_enter Try.func150, Try.ntmps150
  go_wp2_with fail
  refine (clone_any A c l w hr (by omega)).mono ?_
  rintro e w1 ⟨v1, rfl, ho1, hb1⟩
  have hz1' := hb1.size
  have hG1 := own_ge ho1
  have HG1 := Lib.hid hG1
  have hb1' := hb1
  obtain ⟨p1, hp1⟩ : ∃ p, 8 * l.length / 4294967296 % 4294967296 = p := ⟨_, rfl⟩
  obtain ⟨p2, hp2⟩ : ∃ p, 8 * l.length % 4294967296 = p := ⟨_, rfl⟩
  have d5 : IntKind.u32.wrap (8 * (l.length : Int) / 4294967296) = (p1 : Int) := by rw [IntKind.wrap_u32]; omega
  have d6 : IntKind.u32.wrap (8 * (l.length : Int)) = (p2 : Int) := by rw [IntKind.wrap_u32]; omega
  have HP : Hid (padN l = l ++ [128] ++ List.replicate z 0 ++ bytesN [p1, p2]) := Lib.hid (by unfold padN; rw [HZ.out, hp1, hp2])
  have hpw : W32 [p1, p2] := by intro x hx; simp at hx; rcases hx with rfl | rfl <;> omega
  clear hp1 hp2 hG1
  go_wp2_with (first | (at_builtin; refine wpL_app (k := .u8) rfl _ _ 24 rfl w.heap.size 5 i0 (.int .u8 0) 1 Try.underlying24 hi hz0 hz1 hz2 rfl _ (l) rfl (ho1.alloc _) _ _ ([128]) rfl (RdI.lit1 _ _ _ _) ?_ ?_ ?_ ?_; (focus (unfold maxLen; simp; omega)); (focus ((simp; omega))); (focus (first | (simp; done) | (simp; omega))); intro v2 w2 ho2 hg2 _) | (at_builtin; refine wpL_appz (k := .u8) rfl _ _ 24 3 rfl w.heap.size 5 i0 1 .i64 Try.underlying24 Try.underlying3 hi hz0 hz1 hz2 v2 (l ++ [128]) rfl ho2 z _ _ rfl d2 ?_ ?_ ?_ ?_; (focus (unfold maxLen; simp; omega)); (focus (simp; omega)); (focus (have := hg2.size; simp at this; omega)); intro v3 w3 ho3 hg3 hv3))
  have h2 := bG (bA hb1 _) hg2 HG1.out
  have h3 := bG h2 hg3 (own_ge ho2)
  have hz3 := h3.size
  have HO3 := Lib.hid ho3
  have HG3 := Lib.hid (own_ge ho3)
  clear hg2 hg3 ho2 ho3 hb1 hb1' ho1 h2 hv3
  refine (bytes_any (some ⟨w3.heap.size, 0, none⟩) 2 [p1, p2] _ ?_ (by simp) hpw).mono ?_
  · exact RdI.lit w3 .u32 [(p1 : Int), (p2 : Int)] _
  rintro e w4 ⟨v4, rfl, ho4, hb4⟩
  have hl8 : (bytesN [p1, p2]).length = 8 := bytesN_len [p1, p2]
  obtain ⟨BY, hBY⟩ : ∃ BY, bytesN [p1, p2] = BY := ⟨_, rfl⟩
  obtain ⟨D3, hD3⟩ : ∃ D, l ++ [128] ++ List.replicate z 0 = D := ⟨_, rfl⟩
  have hD3l : D3.length ≤ l.length + 65 := by rw [← hD3]; simp; omega
  have hHO3 := HO3.out
  rw [hD3] at hHO3
  rw [hBY] at ho4 hl8
  have HPB : Hid (padN l = D3 ++ BY) := Lib.hid (by rw [HP.out, hD3, hBY])
  obtain ⟨A4, c4, rfl, _, _⟩ := own_slice ho4
  have hr4 := RdI.of_own ho4
  have hb4' := bT (bel1 _ _) hb4
  have ho3' := own_below hHO3 hb4'
  have h4 := bT h3 hb4'
  have hz4 := h4.size
  have HL8 := Lib.hid hl8
  clear hb4 hb4' ho4 hl8 h3 hBY hD3 hHO3
  go_wp2_with (at_builtin; refine wpL_app (k := .u8) rfl _ _ 24 rfl w.heap.size 5 i0 (.int .u8 0) 1 Try.underlying24 hi hz0 hz1 hz2 rfl _ (D3) rfl (ho3') _ _ (BY) rfl (hr4) ?_ ?_ ?_ ?_; (focus (unfold maxLen; have := HL8.out; omega)); (focus ((have := HL8.out; omega))); (focus (omega)); intro v5 w5 ho5 hg5 _)
  have h5 := bG h4 hg5 HG3.out
  have HO5 := Lib.hid ho5
  clear hg5 ho5 ho3'
  go_wp2
  go_ret
  exact ⟨_, rfl, by rw [HPB.out]; exact HO5.out, h5⟩
end Go.Proofs.Ytiogogbkgekkdaa

/- Layer 19's law BarcodeSeals, walked: a tag of which a byte is changed is refused. The law BarcodeSeals, as a row: whatever the ring, the reading, the place and the bits, the call returns true, and its arguments read as before. No condition. -/
import Derived.Test.YtiogogbkgekkdaaM35
import Derived.Test.YtiogogbkgekkdaaM36
import Derived.Test.YtiogogbkgekkdaaRows
import Derived.Test.YtiogogbkgekkdaaM01
namespace Go.Proofs.Ytiogogbkgekkdaa
open Go.RowKit
set_option linter.unusedVariables false
set_option maxRecDepth 100000
set_option linter.unusedSimpArgs false

theorem enc_small (ks : List Ky) (l : List Int) (hl : l.length = 15) : (encE ks l).1.length ≤ 200000 ∧ ∀ x ∈ (encE ks l).1, 0 ≤ x ∧ x < 256 := by
  by_cases h : (encE ks l).2 = 0
  · obtain ⟨q, k, _, _, _, h4, _, _, h7, _⟩ := enc_parts (ks := ks) (l := l) (s := (encE ks l).1) hl (Prod.ext rfl h)
    obtain ⟨t3, t4⟩ := tlvB_facts _ 0 h4 (by omega)
    have := putF_len q (fun f hf => (t4 f hf).2.2)
    rw [h7]
    exact ⟨by rw [fortyPut_len, List.length_append, tagN_len]; omega, fortyPut_byte _⟩
  · have : (encE ks l).1 = [] := by
      unfold encE at h ⊢
      split
      · rfl
      · rename_i g
        rw [if_neg g] at h
        split
        · rfl
        · rename_i k e hk
          rw [hk] at h
          simp only at h
          split
          · rfl
          · rename_i g2
            rw [if_neg g2] at h
            exact absurd rfl h
    rw [this]
    exact ⟨by simp, by simp⟩
theorem dec_err {ks : List Ky} {s : List Int} (h : (decE ks s).2 ≠ 0) : (decE ks s).1 = zL := by
  unfold decE at h ⊢
  split
  · rfl
  rename_i g1
  rw [if_neg g1] at h
  split
  · rfl
  rename_i g2
  rw [if_neg g2] at h
  unfold decF at h ⊢
  split
  · rfl
  rename_i g3
  rw [if_neg g3] at h
  split
  · rfl
  rename_i k e hk
  rw [hk] at h
  simp only at h
  split
  · rename_i g4
    rw [if_pos g4] at h
    exact absurd rfl h
  · rfl
theorem forty_len {s : List Int} : ∀ b, fortyGet s = (b, 0) → b.length ≤ s.length := by
  intro b h
  have := congrArg List.length (fortyPut_get h).1
  rw [fortyPut_len] at this
  omega

theorem wf8 {n : Int} (h : (Lit.int .u8 n).wf = true) : 0 ≤ n ∧ n < 256 := wfu8 (l := [n]) (fun x hx => by obtain rfl := List.mem_singleton.1 hx; exact h) n (List.mem_singleton.2 rfl)
theorem own_some {w : World} {base e n : Nat} {v : Value} {cs : List Value} (h : w.ownsRow base e 1 v n cs) (hn : 0 < n) : ∃ (g c : Nat) (cur : Array Value), v = .slice (some ⟨g, 0, none⟩) n c ∧ base ≤ g ∧ n ≤ c ∧ c ≤ 9223372036854775807 ∧ w.heap[g]? = some (.cells cur e (0, 0)) := by
  rcases h.2 with ⟨_, h0⟩ | ⟨g, cap, cur, rfl, hg, hh, h1, h2, _⟩
  · omega
  · unfold maxLen at h2
    exact ⟨g, cap, cur, rfl, hg, h1, by omega, hh⟩
theorem rdi_set {W : World} {g k : Nat} {y : Int} {l : List Int} {cur : Array Value} {T : TypeId} (h : RdI W .u8 (some ⟨g, 0, none⟩) l) (hrow : W.heap[g]? = some (.cells cur T (0, 0))) (hk : k < l.length) : RdI (W.setCell ⟨g, k, none⟩ (.int .u8 y)) .u8 (some ⟨g, 0, none⟩) (l.set k y) := by
  rcases h with rfl | ⟨ad, e, hlt, hc⟩
  · simp at hk
  obtain rfl := Option.some.inj e
  have ea : ∀ i, (⟨g, 0, none⟩ : Addr).add i = ⟨g, i, none⟩ := by intro i; unfold Addr.add; by_cases hi : i = 0 <;> simp [hi]
  have hs := heap_setCell_same W g k _ _ (.int .u8 y) hrow
  refine .inr ⟨_, rfl, by simp; exact hlt, fun j hj => ?_⟩
  rw [List.length_set] at hj
  rw [ea, cell_of_row _ g j _ _ _ hs]
  have hcj := hc j hj
  rw [ea, cell_of_row _ g j _ _ _ hrow] at hcj
  by_cases e : k = j
  · subst e
    have hsz : k < cur.size := (Array.getElem?_eq_some_iff.1 hcj).1
    rw [getD_set_eq hj]
    simp [hsz]
  · rw [getD_set_ne e, ← hcj]
    simp [Array.getElem?_setIfInBounds_ne e]
set_option maxHeartbeats 8000000 in
set_option maxRecDepth 100000 in
theorem barSeals_b0 (A : Option Addr) (c : Nat) (ks : List Ky) (a0 a1 a2 a3 a4 a5 a6 a7 a8 a9 a10 a11 a12 a13 a14 i x : Int) (w : World) (hr : RdK w A ks) (hl : ks.length ≤ 9223372036854775807) (hx : 0 ≤ x ∧ x < 256) (rv g : List Int × Int) (n m : Nat) (hrv : encE ks [a0, a1, a2, a3, a4, a5, a6, a7, a8, a9, a10, a11, a12, a13, a14] = rv) (hg : fortyGet rv.1 = g) (hn : rv.1.length = n) (hm : g.1.length = m) (hbg : bigB ks = true) :
    Calls Try.prog 10 #[.slice A ks.length c, .agg #[.int .i64 a0, .int .i64 a1, .int .i64 a2, .int .i64 a3, .int .i64 a4, .int .i64 a5, .int .i64 a6, .int .i64 a7, .int .i64 a8, .int .i64 a9, .int .i64 a10, .int .i64 a11, .int .i64 a12, .int .i64 a13, .int .i64 a14], .int .i64 i, .int .u8 x] w fun e w' => e = .returned (.bool true) ∧ Below w.heap.size w w' := by
  have hB := fun W hW => big_any A c ks W hW hl
  obtain ⟨hs1, hs2⟩ := enc_small ks [a0, a1, a2, a3, a4, a5, a6, a7, a8, a9, a10, a11, a12, a13, a14] rfl
  rw [hrv] at hs1 hs2
  have hE2 : ∀ W, RdK W A ks → Calls Try.prog 17 #[.slice A ks.length c, .agg #[.int .i64 a0, .int .i64 a1, .int .i64 a2, .int .i64 a3, .int .i64 a4, .int .i64 a5, .int .i64 a6, .int .i64 a7, .int .i64 a8, .int .i64 a9, .int .i64 a10, .int .i64 a11, .int .i64 a12, .int .i64 a13, .int .i64 a14]] W fun e w' => ∃ As cs, e = .returned (.tuple #[.slice As n cs, .int .i64 rv.2]) ∧ RdI w' .u8 As rv.1 ∧ n ≤ cs ∧ cs ≤ 9223372036854775807 ∧ Below W.heap.size W w' := by
    intro W hW
    have h := bcEncode_any A c ks a0 a1 a2 a3 a4 a5 a6 a7 a8 a9 a10 a11 a12 a13 a14 W hW hl
    rw [hrv] at h
    refine h.mono ?_
    rintro e w2 ⟨v, rfl, ho, hb2⟩
    obtain ⟨As, cs, rfl, u1, u2⟩ := own_slice ho
    unfold maxLen at u2
    exact ⟨As, cs, by rw [hn], RdI.of_own ho, by omega, by omega, hb2⟩
  have hG2 : ∀ As cs W, RdI W .u8 As rv.1 → n ≤ cs → cs ≤ 9223372036854775807 → Calls Try.prog 32 #[.slice As n cs] W fun e w' => ∃ Ab cb, e = .returned (.tuple #[.slice Ab m cb, .int .i64 g.2]) ∧ RdI w' .u8 Ab g.1 ∧ m ≤ cb ∧ cb ≤ 9223372036854775807 ∧ Below W.heap.size W w' := by
    intro As cs W h1 h2 h3
    have h := fortyGet_any As cs rv.1 W h1 (by omega) h3 hs2 (by omega)
    rw [hg, hn] at h
    refine h.mono ?_
    rintro e w2 ⟨v, rfl, ho, hb2⟩
    obtain ⟨Ab, cb, rfl, u1, u2⟩ := own_slice ho
    unfold maxLen at u2
    exact ⟨Ab, cb, by rw [hm], RdI.of_own ho, by omega, by omega, hb2⟩
  have hr1 := hr.below (bel1 w (.cells #[.int .i64 a0, .int .i64 a1, .int .i64 a2, .int .i64 a3, .int .i64 a4, .int .i64 a5, .int .i64 a6, .int .i64 a7, .int .i64 a8, .int .i64 a9, .int .i64 a10, .int .i64 a11, .int .i64 a12, .int .i64 a13, .int .i64 a14] 35)) (Nat.le_refl _)
  have B1 := bel1 w (.cells #[.int .i64 a0, .int .i64 a1, .int .i64 a2, .int .i64 a3, .int .i64 a4, .int .i64 a5, .int .i64 a6, .int .i64 a7, .int .i64 a8, .int .i64 a9, .int .i64 a10, .int .i64 a11, .int .i64 a12, .int .i64 a13, .int .i64 a14] 35)
  clear hrv hg hn hm
  go_enter Try.func10, Try.ntmps10
  go_wp2_with (first | (go_at_call 17; (with_reducible refine (hE2 _ hr1).mono ?_); rintro e w2 ⟨As, cs, rfl, S2, n1, n2, hb2⟩; have hr2 := hr1.below hb2 (Nat.le_refl _); have B2 := bT B1 hb2; clear hb2) | (go_at_call 32; (with_reducible refine (hG2 As cs _ S2 n1 n2).mono ?_); rintro e w3 ⟨Ab, cb, rfl, S3, m1, m2, hb3⟩; have hwn : IntKind.i64.wrap ((m : Int) - 32) = (m : Int) - 32 := (by rw [IntKind.wrap_i64]; omega); have hr3 := hr2.below hb3 (Nat.le_refl _); have B3 := bT B2 hb3; clear hb3) | (go_at_call 22; (with_reducible refine (hB _ hr3).mono ?_); rintro e w4 ⟨he, rfl⟩; rw [hbg] at he; subst he) | (go_at_call 24; (with_reducible refine (coded19_any _).mono ?_); rintro e w9 ⟨rfl, hb9⟩))
  go_ret
  exact ⟨rfl, bT B3 hb9⟩

set_option maxHeartbeats 8000000 in
set_option maxRecDepth 100000 in
theorem barSeals_b1 (A : Option Addr) (c : Nat) (ks : List Ky) (a0 a1 a2 a3 a4 a5 a6 a7 a8 a9 a10 a11 a12 a13 a14 i x : Int) (w : World) (hr : RdK w A ks) (hl : ks.length ≤ 9223372036854775807) (hx : 0 ≤ x ∧ x < 256) (rv g : List Int × Int) (n m : Nat) (hrv : encE ks [a0, a1, a2, a3, a4, a5, a6, a7, a8, a9, a10, a11, a12, a13, a14] = rv) (hg : fortyGet rv.1 = g) (hn : rv.1.length = n) (hm : g.1.length = m) (hbg : bigB ks = false) (d2 : (rv.2 != 0) = true) :
    Calls Try.prog 10 #[.slice A ks.length c, .agg #[.int .i64 a0, .int .i64 a1, .int .i64 a2, .int .i64 a3, .int .i64 a4, .int .i64 a5, .int .i64 a6, .int .i64 a7, .int .i64 a8, .int .i64 a9, .int .i64 a10, .int .i64 a11, .int .i64 a12, .int .i64 a13, .int .i64 a14], .int .i64 i, .int .u8 x] w fun e w' => e = .returned (.bool true) ∧ Below w.heap.size w w' := by
  have hB := fun W hW => big_any A c ks W hW hl
  obtain ⟨hs1, hs2⟩ := enc_small ks [a0, a1, a2, a3, a4, a5, a6, a7, a8, a9, a10, a11, a12, a13, a14] rfl
  rw [hrv] at hs1 hs2
  have hE2 : ∀ W, RdK W A ks → Calls Try.prog 17 #[.slice A ks.length c, .agg #[.int .i64 a0, .int .i64 a1, .int .i64 a2, .int .i64 a3, .int .i64 a4, .int .i64 a5, .int .i64 a6, .int .i64 a7, .int .i64 a8, .int .i64 a9, .int .i64 a10, .int .i64 a11, .int .i64 a12, .int .i64 a13, .int .i64 a14]] W fun e w' => ∃ As cs, e = .returned (.tuple #[.slice As n cs, .int .i64 rv.2]) ∧ RdI w' .u8 As rv.1 ∧ n ≤ cs ∧ cs ≤ 9223372036854775807 ∧ Below W.heap.size W w' := by
    intro W hW
    have h := bcEncode_any A c ks a0 a1 a2 a3 a4 a5 a6 a7 a8 a9 a10 a11 a12 a13 a14 W hW hl
    rw [hrv] at h
    refine h.mono ?_
    rintro e w2 ⟨v, rfl, ho, hb2⟩
    obtain ⟨As, cs, rfl, u1, u2⟩ := own_slice ho
    unfold maxLen at u2
    exact ⟨As, cs, by rw [hn], RdI.of_own ho, by omega, by omega, hb2⟩
  have hG2 : ∀ As cs W, RdI W .u8 As rv.1 → n ≤ cs → cs ≤ 9223372036854775807 → Calls Try.prog 32 #[.slice As n cs] W fun e w' => ∃ Ab cb, e = .returned (.tuple #[.slice Ab m cb, .int .i64 g.2]) ∧ RdI w' .u8 Ab g.1 ∧ m ≤ cb ∧ cb ≤ 9223372036854775807 ∧ Below W.heap.size W w' := by
    intro As cs W h1 h2 h3
    have h := fortyGet_any As cs rv.1 W h1 (by omega) h3 hs2 (by omega)
    rw [hg, hn] at h
    refine h.mono ?_
    rintro e w2 ⟨v, rfl, ho, hb2⟩
    obtain ⟨Ab, cb, rfl, u1, u2⟩ := own_slice ho
    unfold maxLen at u2
    exact ⟨Ab, cb, by rw [hm], RdI.of_own ho, by omega, by omega, hb2⟩
  have hr1 := hr.below (bel1 w (.cells #[.int .i64 a0, .int .i64 a1, .int .i64 a2, .int .i64 a3, .int .i64 a4, .int .i64 a5, .int .i64 a6, .int .i64 a7, .int .i64 a8, .int .i64 a9, .int .i64 a10, .int .i64 a11, .int .i64 a12, .int .i64 a13, .int .i64 a14] 35)) (Nat.le_refl _)
  have B1 := bel1 w (.cells #[.int .i64 a0, .int .i64 a1, .int .i64 a2, .int .i64 a3, .int .i64 a4, .int .i64 a5, .int .i64 a6, .int .i64 a7, .int .i64 a8, .int .i64 a9, .int .i64 a10, .int .i64 a11, .int .i64 a12, .int .i64 a13, .int .i64 a14] 35)
  clear hrv hg hn hm
  go_enter Try.func10, Try.ntmps10
  go_wp2_with (first | (go_at_call 17; (with_reducible refine (hE2 _ hr1).mono ?_); rintro e w2 ⟨As, cs, rfl, S2, n1, n2, hb2⟩; have hr2 := hr1.below hb2 (Nat.le_refl _); have B2 := bT B1 hb2; clear hb2) | (go_at_call 32; (with_reducible refine (hG2 As cs _ S2 n1 n2).mono ?_); rintro e w3 ⟨Ab, cb, rfl, S3, m1, m2, hb3⟩; have hwn : IntKind.i64.wrap ((m : Int) - 32) = (m : Int) - 32 := (by rw [IntKind.wrap_i64]; omega); have hr3 := hr2.below hb3 (Nat.le_refl _); have B3 := bT B2 hb3; clear hb3) | (go_at_call 22; (with_reducible refine (hB _ hr3).mono ?_); rintro e w4 ⟨he, rfl⟩; rw [hbg] at he; subst he) | (go_at_call 24; (with_reducible refine (coded19_any _).mono ?_); rintro e w9 ⟨rfl, hb9⟩))
  go_ret
  exact ⟨rfl, bT B3 hb9⟩

set_option maxHeartbeats 8000000 in
set_option maxRecDepth 100000 in
theorem barSeals_b2 (A : Option Addr) (c : Nat) (ks : List Ky) (a0 a1 a2 a3 a4 a5 a6 a7 a8 a9 a10 a11 a12 a13 a14 i x : Int) (w : World) (hr : RdK w A ks) (hl : ks.length ≤ 9223372036854775807) (hx : 0 ≤ x ∧ x < 256) (rv g : List Int × Int) (n m : Nat) (hrv : encE ks [a0, a1, a2, a3, a4, a5, a6, a7, a8, a9, a10, a11, a12, a13, a14] = rv) (hg : fortyGet rv.1 = g) (hn : rv.1.length = n) (hm : g.1.length = m) (hbg : bigB ks = false) (d2 : (rv.2 != 0) = false) (d3 : (g.2 != 0) = true) :
    Calls Try.prog 10 #[.slice A ks.length c, .agg #[.int .i64 a0, .int .i64 a1, .int .i64 a2, .int .i64 a3, .int .i64 a4, .int .i64 a5, .int .i64 a6, .int .i64 a7, .int .i64 a8, .int .i64 a9, .int .i64 a10, .int .i64 a11, .int .i64 a12, .int .i64 a13, .int .i64 a14], .int .i64 i, .int .u8 x] w fun e w' => e = .returned (.bool true) ∧ Below w.heap.size w w' := by
  have hB := fun W hW => big_any A c ks W hW hl
  obtain ⟨hs1, hs2⟩ := enc_small ks [a0, a1, a2, a3, a4, a5, a6, a7, a8, a9, a10, a11, a12, a13, a14] rfl
  rw [hrv] at hs1 hs2
  have hE2 : ∀ W, RdK W A ks → Calls Try.prog 17 #[.slice A ks.length c, .agg #[.int .i64 a0, .int .i64 a1, .int .i64 a2, .int .i64 a3, .int .i64 a4, .int .i64 a5, .int .i64 a6, .int .i64 a7, .int .i64 a8, .int .i64 a9, .int .i64 a10, .int .i64 a11, .int .i64 a12, .int .i64 a13, .int .i64 a14]] W fun e w' => ∃ As cs, e = .returned (.tuple #[.slice As n cs, .int .i64 rv.2]) ∧ RdI w' .u8 As rv.1 ∧ n ≤ cs ∧ cs ≤ 9223372036854775807 ∧ Below W.heap.size W w' := by
    intro W hW
    have h := bcEncode_any A c ks a0 a1 a2 a3 a4 a5 a6 a7 a8 a9 a10 a11 a12 a13 a14 W hW hl
    rw [hrv] at h
    refine h.mono ?_
    rintro e w2 ⟨v, rfl, ho, hb2⟩
    obtain ⟨As, cs, rfl, u1, u2⟩ := own_slice ho
    unfold maxLen at u2
    exact ⟨As, cs, by rw [hn], RdI.of_own ho, by omega, by omega, hb2⟩
  have hG2 : ∀ As cs W, RdI W .u8 As rv.1 → n ≤ cs → cs ≤ 9223372036854775807 → Calls Try.prog 32 #[.slice As n cs] W fun e w' => ∃ Ab cb, e = .returned (.tuple #[.slice Ab m cb, .int .i64 g.2]) ∧ RdI w' .u8 Ab g.1 ∧ m ≤ cb ∧ cb ≤ 9223372036854775807 ∧ Below W.heap.size W w' := by
    intro As cs W h1 h2 h3
    have h := fortyGet_any As cs rv.1 W h1 (by omega) h3 hs2 (by omega)
    rw [hg, hn] at h
    refine h.mono ?_
    rintro e w2 ⟨v, rfl, ho, hb2⟩
    obtain ⟨Ab, cb, rfl, u1, u2⟩ := own_slice ho
    unfold maxLen at u2
    exact ⟨Ab, cb, by rw [hm], RdI.of_own ho, by omega, by omega, hb2⟩
  have hr1 := hr.below (bel1 w (.cells #[.int .i64 a0, .int .i64 a1, .int .i64 a2, .int .i64 a3, .int .i64 a4, .int .i64 a5, .int .i64 a6, .int .i64 a7, .int .i64 a8, .int .i64 a9, .int .i64 a10, .int .i64 a11, .int .i64 a12, .int .i64 a13, .int .i64 a14] 35)) (Nat.le_refl _)
  have B1 := bel1 w (.cells #[.int .i64 a0, .int .i64 a1, .int .i64 a2, .int .i64 a3, .int .i64 a4, .int .i64 a5, .int .i64 a6, .int .i64 a7, .int .i64 a8, .int .i64 a9, .int .i64 a10, .int .i64 a11, .int .i64 a12, .int .i64 a13, .int .i64 a14] 35)
  clear hrv hg hn hm
  go_enter Try.func10, Try.ntmps10
  go_wp2_with (first | (go_at_call 17; (with_reducible refine (hE2 _ hr1).mono ?_); rintro e w2 ⟨As, cs, rfl, S2, n1, n2, hb2⟩; have hr2 := hr1.below hb2 (Nat.le_refl _); have B2 := bT B1 hb2; clear hb2) | (go_at_call 32; (with_reducible refine (hG2 As cs _ S2 n1 n2).mono ?_); rintro e w3 ⟨Ab, cb, rfl, S3, m1, m2, hb3⟩; have hwn : IntKind.i64.wrap ((m : Int) - 32) = (m : Int) - 32 := (by rw [IntKind.wrap_i64]; omega); have hr3 := hr2.below hb3 (Nat.le_refl _); have B3 := bT B2 hb3; clear hb3) | (go_at_call 22; (with_reducible refine (hB _ hr3).mono ?_); rintro e w4 ⟨he, rfl⟩; rw [hbg] at he; subst he) | (go_at_call 24; (with_reducible refine (coded19_any _).mono ?_); rintro e w9 ⟨rfl, hb9⟩))
  go_ret
  exact ⟨rfl, bT B3 hb9⟩

set_option maxHeartbeats 8000000 in
set_option maxRecDepth 100000 in
theorem barSeals_b3 (A : Option Addr) (c : Nat) (ks : List Ky) (a0 a1 a2 a3 a4 a5 a6 a7 a8 a9 a10 a11 a12 a13 a14 i x : Int) (w : World) (hr : RdK w A ks) (hl : ks.length ≤ 9223372036854775807) (hx : 0 ≤ x ∧ x < 256) (rv g : List Int × Int) (n m : Nat) (hrv : encE ks [a0, a1, a2, a3, a4, a5, a6, a7, a8, a9, a10, a11, a12, a13, a14] = rv) (hg : fortyGet rv.1 = g) (hn : rv.1.length = n) (hm : g.1.length = m) (hbg : bigB ks = false) (d2 : (rv.2 != 0) = false) (d3 : (g.2 != 0) = false) (d4 : decide ((m : Int) < 32) = true) :
    Calls Try.prog 10 #[.slice A ks.length c, .agg #[.int .i64 a0, .int .i64 a1, .int .i64 a2, .int .i64 a3, .int .i64 a4, .int .i64 a5, .int .i64 a6, .int .i64 a7, .int .i64 a8, .int .i64 a9, .int .i64 a10, .int .i64 a11, .int .i64 a12, .int .i64 a13, .int .i64 a14], .int .i64 i, .int .u8 x] w fun e w' => e = .returned (.bool true) ∧ Below w.heap.size w w' := by
  have hB := fun W hW => big_any A c ks W hW hl
  obtain ⟨hs1, hs2⟩ := enc_small ks [a0, a1, a2, a3, a4, a5, a6, a7, a8, a9, a10, a11, a12, a13, a14] rfl
  rw [hrv] at hs1 hs2
  have hE2 : ∀ W, RdK W A ks → Calls Try.prog 17 #[.slice A ks.length c, .agg #[.int .i64 a0, .int .i64 a1, .int .i64 a2, .int .i64 a3, .int .i64 a4, .int .i64 a5, .int .i64 a6, .int .i64 a7, .int .i64 a8, .int .i64 a9, .int .i64 a10, .int .i64 a11, .int .i64 a12, .int .i64 a13, .int .i64 a14]] W fun e w' => ∃ As cs, e = .returned (.tuple #[.slice As n cs, .int .i64 rv.2]) ∧ RdI w' .u8 As rv.1 ∧ n ≤ cs ∧ cs ≤ 9223372036854775807 ∧ Below W.heap.size W w' := by
    intro W hW
    have h := bcEncode_any A c ks a0 a1 a2 a3 a4 a5 a6 a7 a8 a9 a10 a11 a12 a13 a14 W hW hl
    rw [hrv] at h
    refine h.mono ?_
    rintro e w2 ⟨v, rfl, ho, hb2⟩
    obtain ⟨As, cs, rfl, u1, u2⟩ := own_slice ho
    unfold maxLen at u2
    exact ⟨As, cs, by rw [hn], RdI.of_own ho, by omega, by omega, hb2⟩
  have hG2 : ∀ As cs W, RdI W .u8 As rv.1 → n ≤ cs → cs ≤ 9223372036854775807 → Calls Try.prog 32 #[.slice As n cs] W fun e w' => ∃ Ab cb, e = .returned (.tuple #[.slice Ab m cb, .int .i64 g.2]) ∧ RdI w' .u8 Ab g.1 ∧ m ≤ cb ∧ cb ≤ 9223372036854775807 ∧ Below W.heap.size W w' := by
    intro As cs W h1 h2 h3
    have h := fortyGet_any As cs rv.1 W h1 (by omega) h3 hs2 (by omega)
    rw [hg, hn] at h
    refine h.mono ?_
    rintro e w2 ⟨v, rfl, ho, hb2⟩
    obtain ⟨Ab, cb, rfl, u1, u2⟩ := own_slice ho
    unfold maxLen at u2
    exact ⟨Ab, cb, by rw [hm], RdI.of_own ho, by omega, by omega, hb2⟩
  have hr1 := hr.below (bel1 w (.cells #[.int .i64 a0, .int .i64 a1, .int .i64 a2, .int .i64 a3, .int .i64 a4, .int .i64 a5, .int .i64 a6, .int .i64 a7, .int .i64 a8, .int .i64 a9, .int .i64 a10, .int .i64 a11, .int .i64 a12, .int .i64 a13, .int .i64 a14] 35)) (Nat.le_refl _)
  have B1 := bel1 w (.cells #[.int .i64 a0, .int .i64 a1, .int .i64 a2, .int .i64 a3, .int .i64 a4, .int .i64 a5, .int .i64 a6, .int .i64 a7, .int .i64 a8, .int .i64 a9, .int .i64 a10, .int .i64 a11, .int .i64 a12, .int .i64 a13, .int .i64 a14] 35)
  clear hrv hg hn hm
  go_enter Try.func10, Try.ntmps10
  go_wp2_with (first | (go_at_call 17; (with_reducible refine (hE2 _ hr1).mono ?_); rintro e w2 ⟨As, cs, rfl, S2, n1, n2, hb2⟩; have hr2 := hr1.below hb2 (Nat.le_refl _); have B2 := bT B1 hb2; clear hb2) | (go_at_call 32; (with_reducible refine (hG2 As cs _ S2 n1 n2).mono ?_); rintro e w3 ⟨Ab, cb, rfl, S3, m1, m2, hb3⟩; have hwn : IntKind.i64.wrap ((m : Int) - 32) = (m : Int) - 32 := (by rw [IntKind.wrap_i64]; omega); have hr3 := hr2.below hb3 (Nat.le_refl _); have B3 := bT B2 hb3; clear hb3) | (go_at_call 22; (with_reducible refine (hB _ hr3).mono ?_); rintro e w4 ⟨he, rfl⟩; rw [hbg] at he; subst he) | (go_at_call 24; (with_reducible refine (coded19_any _).mono ?_); rintro e w9 ⟨rfl, hb9⟩))
  go_ret
  exact ⟨rfl, bT B3 hb9⟩

set_option maxHeartbeats 8000000 in
set_option maxRecDepth 100000 in
theorem barSeals_b4 (A : Option Addr) (c : Nat) (ks : List Ky) (a0 a1 a2 a3 a4 a5 a6 a7 a8 a9 a10 a11 a12 a13 a14 i x : Int) (w : World) (hr : RdK w A ks) (hl : ks.length ≤ 9223372036854775807) (hx : 0 ≤ x ∧ x < 256) (rv g : List Int × Int) (n m : Nat) (hrv : encE ks [a0, a1, a2, a3, a4, a5, a6, a7, a8, a9, a10, a11, a12, a13, a14] = rv) (hg : fortyGet rv.1 = g) (hn : rv.1.length = n) (hm : g.1.length = m) (hbg : bigB ks = false) (d2 : (rv.2 != 0) = false) (d3 : (g.2 != 0) = false) (d4 : decide ((m : Int) < 32) = false) (d5 : decide (i < (m : Int) - 32) = true) :
    Calls Try.prog 10 #[.slice A ks.length c, .agg #[.int .i64 a0, .int .i64 a1, .int .i64 a2, .int .i64 a3, .int .i64 a4, .int .i64 a5, .int .i64 a6, .int .i64 a7, .int .i64 a8, .int .i64 a9, .int .i64 a10, .int .i64 a11, .int .i64 a12, .int .i64 a13, .int .i64 a14], .int .i64 i, .int .u8 x] w fun e w' => e = .returned (.bool true) ∧ Below w.heap.size w w' := by
  have hB := fun W hW => big_any A c ks W hW hl
  obtain ⟨hs1, hs2⟩ := enc_small ks [a0, a1, a2, a3, a4, a5, a6, a7, a8, a9, a10, a11, a12, a13, a14] rfl
  rw [hrv] at hs1 hs2
  have hE2 : ∀ W, RdK W A ks → Calls Try.prog 17 #[.slice A ks.length c, .agg #[.int .i64 a0, .int .i64 a1, .int .i64 a2, .int .i64 a3, .int .i64 a4, .int .i64 a5, .int .i64 a6, .int .i64 a7, .int .i64 a8, .int .i64 a9, .int .i64 a10, .int .i64 a11, .int .i64 a12, .int .i64 a13, .int .i64 a14]] W fun e w' => ∃ As cs, e = .returned (.tuple #[.slice As n cs, .int .i64 rv.2]) ∧ RdI w' .u8 As rv.1 ∧ n ≤ cs ∧ cs ≤ 9223372036854775807 ∧ Below W.heap.size W w' := by
    intro W hW
    have h := bcEncode_any A c ks a0 a1 a2 a3 a4 a5 a6 a7 a8 a9 a10 a11 a12 a13 a14 W hW hl
    rw [hrv] at h
    refine h.mono ?_
    rintro e w2 ⟨v, rfl, ho, hb2⟩
    obtain ⟨As, cs, rfl, u1, u2⟩ := own_slice ho
    unfold maxLen at u2
    exact ⟨As, cs, by rw [hn], RdI.of_own ho, by omega, by omega, hb2⟩
  have hG2 : ∀ As cs W, RdI W .u8 As rv.1 → n ≤ cs → cs ≤ 9223372036854775807 → Calls Try.prog 32 #[.slice As n cs] W fun e w' => ∃ Ab cb, e = .returned (.tuple #[.slice Ab m cb, .int .i64 g.2]) ∧ RdI w' .u8 Ab g.1 ∧ m ≤ cb ∧ cb ≤ 9223372036854775807 ∧ Below W.heap.size W w' := by
    intro As cs W h1 h2 h3
    have h := fortyGet_any As cs rv.1 W h1 (by omega) h3 hs2 (by omega)
    rw [hg, hn] at h
    refine h.mono ?_
    rintro e w2 ⟨v, rfl, ho, hb2⟩
    obtain ⟨Ab, cb, rfl, u1, u2⟩ := own_slice ho
    unfold maxLen at u2
    exact ⟨Ab, cb, by rw [hm], RdI.of_own ho, by omega, by omega, hb2⟩
  have hr1 := hr.below (bel1 w (.cells #[.int .i64 a0, .int .i64 a1, .int .i64 a2, .int .i64 a3, .int .i64 a4, .int .i64 a5, .int .i64 a6, .int .i64 a7, .int .i64 a8, .int .i64 a9, .int .i64 a10, .int .i64 a11, .int .i64 a12, .int .i64 a13, .int .i64 a14] 35)) (Nat.le_refl _)
  have B1 := bel1 w (.cells #[.int .i64 a0, .int .i64 a1, .int .i64 a2, .int .i64 a3, .int .i64 a4, .int .i64 a5, .int .i64 a6, .int .i64 a7, .int .i64 a8, .int .i64 a9, .int .i64 a10, .int .i64 a11, .int .i64 a12, .int .i64 a13, .int .i64 a14] 35)
  clear hrv hg hn hm
  go_enter Try.func10, Try.ntmps10
  go_wp2_with (first | (go_at_call 17; (with_reducible refine (hE2 _ hr1).mono ?_); rintro e w2 ⟨As, cs, rfl, S2, n1, n2, hb2⟩; have hr2 := hr1.below hb2 (Nat.le_refl _); have B2 := bT B1 hb2; clear hb2) | (go_at_call 32; (with_reducible refine (hG2 As cs _ S2 n1 n2).mono ?_); rintro e w3 ⟨Ab, cb, rfl, S3, m1, m2, hb3⟩; have hwn : IntKind.i64.wrap ((m : Int) - 32) = (m : Int) - 32 := (by rw [IntKind.wrap_i64]; omega); have hr3 := hr2.below hb3 (Nat.le_refl _); have B3 := bT B2 hb3; clear hb3) | (go_at_call 22; (with_reducible refine (hB _ hr3).mono ?_); rintro e w4 ⟨he, rfl⟩; rw [hbg] at he; subst he) | (go_at_call 24; (with_reducible refine (coded19_any _).mono ?_); rintro e w9 ⟨rfl, hb9⟩))
  go_ret
  exact ⟨rfl, bT B3 hb9⟩

set_option maxHeartbeats 8000000 in
set_option maxRecDepth 100000 in
theorem barSeals_b5 (A : Option Addr) (c : Nat) (ks : List Ky) (a0 a1 a2 a3 a4 a5 a6 a7 a8 a9 a10 a11 a12 a13 a14 i x : Int) (w : World) (hr : RdK w A ks) (hl : ks.length ≤ 9223372036854775807) (hx : 0 ≤ x ∧ x < 256) (rv g : List Int × Int) (n m : Nat) (hrv : encE ks [a0, a1, a2, a3, a4, a5, a6, a7, a8, a9, a10, a11, a12, a13, a14] = rv) (hg : fortyGet rv.1 = g) (hn : rv.1.length = n) (hm : g.1.length = m) (hbg : bigB ks = false) (d2 : (rv.2 != 0) = false) (d3 : (g.2 != 0) = false) (d4 : decide ((m : Int) < 32) = false) (d5 : decide (i < (m : Int) - 32) = false) (d6 : decide ((m : Int) ≤ i) = true) :
    Calls Try.prog 10 #[.slice A ks.length c, .agg #[.int .i64 a0, .int .i64 a1, .int .i64 a2, .int .i64 a3, .int .i64 a4, .int .i64 a5, .int .i64 a6, .int .i64 a7, .int .i64 a8, .int .i64 a9, .int .i64 a10, .int .i64 a11, .int .i64 a12, .int .i64 a13, .int .i64 a14], .int .i64 i, .int .u8 x] w fun e w' => e = .returned (.bool true) ∧ Below w.heap.size w w' := by
  have hB := fun W hW => big_any A c ks W hW hl
  obtain ⟨hs1, hs2⟩ := enc_small ks [a0, a1, a2, a3, a4, a5, a6, a7, a8, a9, a10, a11, a12, a13, a14] rfl
  rw [hrv] at hs1 hs2
  have hE2 : ∀ W, RdK W A ks → Calls Try.prog 17 #[.slice A ks.length c, .agg #[.int .i64 a0, .int .i64 a1, .int .i64 a2, .int .i64 a3, .int .i64 a4, .int .i64 a5, .int .i64 a6, .int .i64 a7, .int .i64 a8, .int .i64 a9, .int .i64 a10, .int .i64 a11, .int .i64 a12, .int .i64 a13, .int .i64 a14]] W fun e w' => ∃ As cs, e = .returned (.tuple #[.slice As n cs, .int .i64 rv.2]) ∧ RdI w' .u8 As rv.1 ∧ n ≤ cs ∧ cs ≤ 9223372036854775807 ∧ Below W.heap.size W w' := by
    intro W hW
    have h := bcEncode_any A c ks a0 a1 a2 a3 a4 a5 a6 a7 a8 a9 a10 a11 a12 a13 a14 W hW hl
    rw [hrv] at h
    refine h.mono ?_
    rintro e w2 ⟨v, rfl, ho, hb2⟩
    obtain ⟨As, cs, rfl, u1, u2⟩ := own_slice ho
    unfold maxLen at u2
    exact ⟨As, cs, by rw [hn], RdI.of_own ho, by omega, by omega, hb2⟩
  have hG2 : ∀ As cs W, RdI W .u8 As rv.1 → n ≤ cs → cs ≤ 9223372036854775807 → Calls Try.prog 32 #[.slice As n cs] W fun e w' => ∃ Ab cb, e = .returned (.tuple #[.slice Ab m cb, .int .i64 g.2]) ∧ RdI w' .u8 Ab g.1 ∧ m ≤ cb ∧ cb ≤ 9223372036854775807 ∧ Below W.heap.size W w' := by
    intro As cs W h1 h2 h3
    have h := fortyGet_any As cs rv.1 W h1 (by omega) h3 hs2 (by omega)
    rw [hg, hn] at h
    refine h.mono ?_
    rintro e w2 ⟨v, rfl, ho, hb2⟩
    obtain ⟨Ab, cb, rfl, u1, u2⟩ := own_slice ho
    unfold maxLen at u2
    exact ⟨Ab, cb, by rw [hm], RdI.of_own ho, by omega, by omega, hb2⟩
  have hr1 := hr.below (bel1 w (.cells #[.int .i64 a0, .int .i64 a1, .int .i64 a2, .int .i64 a3, .int .i64 a4, .int .i64 a5, .int .i64 a6, .int .i64 a7, .int .i64 a8, .int .i64 a9, .int .i64 a10, .int .i64 a11, .int .i64 a12, .int .i64 a13, .int .i64 a14] 35)) (Nat.le_refl _)
  have B1 := bel1 w (.cells #[.int .i64 a0, .int .i64 a1, .int .i64 a2, .int .i64 a3, .int .i64 a4, .int .i64 a5, .int .i64 a6, .int .i64 a7, .int .i64 a8, .int .i64 a9, .int .i64 a10, .int .i64 a11, .int .i64 a12, .int .i64 a13, .int .i64 a14] 35)
  clear hrv hg hn hm
  go_enter Try.func10, Try.ntmps10
  go_wp2_with (first | (go_at_call 17; (with_reducible refine (hE2 _ hr1).mono ?_); rintro e w2 ⟨As, cs, rfl, S2, n1, n2, hb2⟩; have hr2 := hr1.below hb2 (Nat.le_refl _); have B2 := bT B1 hb2; clear hb2) | (go_at_call 32; (with_reducible refine (hG2 As cs _ S2 n1 n2).mono ?_); rintro e w3 ⟨Ab, cb, rfl, S3, m1, m2, hb3⟩; have hwn : IntKind.i64.wrap ((m : Int) - 32) = (m : Int) - 32 := (by rw [IntKind.wrap_i64]; omega); have hr3 := hr2.below hb3 (Nat.le_refl _); have B3 := bT B2 hb3; clear hb3) | (go_at_call 22; (with_reducible refine (hB _ hr3).mono ?_); rintro e w4 ⟨he, rfl⟩; rw [hbg] at he; subst he) | (go_at_call 24; (with_reducible refine (coded19_any _).mono ?_); rintro e w9 ⟨rfl, hb9⟩))
  go_ret
  exact ⟨rfl, bT B3 hb9⟩

set_option maxHeartbeats 8000000 in
set_option maxRecDepth 100000 in
theorem barSeals_b6 (A : Option Addr) (c : Nat) (ks : List Ky) (a0 a1 a2 a3 a4 a5 a6 a7 a8 a9 a10 a11 a12 a13 a14 i x : Int) (w : World) (hr : RdK w A ks) (hl : ks.length ≤ 9223372036854775807) (hx : 0 ≤ x ∧ x < 256) (rv g : List Int × Int) (n m : Nat) (hrv : encE ks [a0, a1, a2, a3, a4, a5, a6, a7, a8, a9, a10, a11, a12, a13, a14] = rv) (hg : fortyGet rv.1 = g) (hn : rv.1.length = n) (hm : g.1.length = m) (hbg : bigB ks = false) (d2 : (rv.2 != 0) = false) (d3 : (g.2 != 0) = false) (d4 : decide ((m : Int) < 32) = false) (d5 : decide (i < (m : Int) - 32) = false) (d6 : decide ((m : Int) ≤ i) = false) (d7 : (x == 0) = true) :
    Calls Try.prog 10 #[.slice A ks.length c, .agg #[.int .i64 a0, .int .i64 a1, .int .i64 a2, .int .i64 a3, .int .i64 a4, .int .i64 a5, .int .i64 a6, .int .i64 a7, .int .i64 a8, .int .i64 a9, .int .i64 a10, .int .i64 a11, .int .i64 a12, .int .i64 a13, .int .i64 a14], .int .i64 i, .int .u8 x] w fun e w' => e = .returned (.bool true) ∧ Below w.heap.size w w' := by
  have hB := fun W hW => big_any A c ks W hW hl
  obtain ⟨hs1, hs2⟩ := enc_small ks [a0, a1, a2, a3, a4, a5, a6, a7, a8, a9, a10, a11, a12, a13, a14] rfl
  rw [hrv] at hs1 hs2
  have hE2 : ∀ W, RdK W A ks → Calls Try.prog 17 #[.slice A ks.length c, .agg #[.int .i64 a0, .int .i64 a1, .int .i64 a2, .int .i64 a3, .int .i64 a4, .int .i64 a5, .int .i64 a6, .int .i64 a7, .int .i64 a8, .int .i64 a9, .int .i64 a10, .int .i64 a11, .int .i64 a12, .int .i64 a13, .int .i64 a14]] W fun e w' => ∃ As cs, e = .returned (.tuple #[.slice As n cs, .int .i64 rv.2]) ∧ RdI w' .u8 As rv.1 ∧ n ≤ cs ∧ cs ≤ 9223372036854775807 ∧ Below W.heap.size W w' := by
    intro W hW
    have h := bcEncode_any A c ks a0 a1 a2 a3 a4 a5 a6 a7 a8 a9 a10 a11 a12 a13 a14 W hW hl
    rw [hrv] at h
    refine h.mono ?_
    rintro e w2 ⟨v, rfl, ho, hb2⟩
    obtain ⟨As, cs, rfl, u1, u2⟩ := own_slice ho
    unfold maxLen at u2
    exact ⟨As, cs, by rw [hn], RdI.of_own ho, by omega, by omega, hb2⟩
  have hG2 : ∀ As cs W, RdI W .u8 As rv.1 → n ≤ cs → cs ≤ 9223372036854775807 → Calls Try.prog 32 #[.slice As n cs] W fun e w' => ∃ Ab cb, e = .returned (.tuple #[.slice Ab m cb, .int .i64 g.2]) ∧ RdI w' .u8 Ab g.1 ∧ m ≤ cb ∧ cb ≤ 9223372036854775807 ∧ Below W.heap.size W w' := by
    intro As cs W h1 h2 h3
    have h := fortyGet_any As cs rv.1 W h1 (by omega) h3 hs2 (by omega)
    rw [hg, hn] at h
    refine h.mono ?_
    rintro e w2 ⟨v, rfl, ho, hb2⟩
    obtain ⟨Ab, cb, rfl, u1, u2⟩ := own_slice ho
    unfold maxLen at u2
    exact ⟨Ab, cb, by rw [hm], RdI.of_own ho, by omega, by omega, hb2⟩
  have hr1 := hr.below (bel1 w (.cells #[.int .i64 a0, .int .i64 a1, .int .i64 a2, .int .i64 a3, .int .i64 a4, .int .i64 a5, .int .i64 a6, .int .i64 a7, .int .i64 a8, .int .i64 a9, .int .i64 a10, .int .i64 a11, .int .i64 a12, .int .i64 a13, .int .i64 a14] 35)) (Nat.le_refl _)
  have B1 := bel1 w (.cells #[.int .i64 a0, .int .i64 a1, .int .i64 a2, .int .i64 a3, .int .i64 a4, .int .i64 a5, .int .i64 a6, .int .i64 a7, .int .i64 a8, .int .i64 a9, .int .i64 a10, .int .i64 a11, .int .i64 a12, .int .i64 a13, .int .i64 a14] 35)
  clear hrv hg hn hm
  go_enter Try.func10, Try.ntmps10
  go_wp2_with (first | (go_at_call 17; (with_reducible refine (hE2 _ hr1).mono ?_); rintro e w2 ⟨As, cs, rfl, S2, n1, n2, hb2⟩; have hr2 := hr1.below hb2 (Nat.le_refl _); have B2 := bT B1 hb2; clear hb2) | (go_at_call 32; (with_reducible refine (hG2 As cs _ S2 n1 n2).mono ?_); rintro e w3 ⟨Ab, cb, rfl, S3, m1, m2, hb3⟩; have hwn : IntKind.i64.wrap ((m : Int) - 32) = (m : Int) - 32 := (by rw [IntKind.wrap_i64]; omega); have hr3 := hr2.below hb3 (Nat.le_refl _); have B3 := bT B2 hb3; clear hb3) | (go_at_call 22; (with_reducible refine (hB _ hr3).mono ?_); rintro e w4 ⟨he, rfl⟩; rw [hbg] at he; subst he) | (go_at_call 24; (with_reducible refine (coded19_any _).mono ?_); rintro e w9 ⟨rfl, hb9⟩))
  go_ret
  exact ⟨rfl, bT B3 hb9⟩


set_option maxHeartbeats 8000000 in
set_option maxRecDepth 100000 in
theorem barSeals_ok (A : Option Addr) (c : Nat) (ks : List Ky) (a0 a1 a2 a3 a4 a5 a6 a7 a8 a9 a10 a11 a12 a13 a14 i x : Int) (w : World) (hr : RdK w A ks) (hl : ks.length ≤ 9223372036854775807) (hx : 0 ≤ x ∧ x < 256) (rv g : List Int × Int) (n m : Nat) (hrv : encE ks [a0, a1, a2, a3, a4, a5, a6, a7, a8, a9, a10, a11, a12, a13, a14] = rv) (hg : fortyGet rv.1 = g) (hn : rv.1.length = n) (hm : g.1.length = m) (hbg : bigB ks = false) (d2 : (rv.2 != 0) = false) (d3 : (g.2 != 0) = false) (d4 : decide ((m : Int) < 32) = false) (d5 : decide (i < (m : Int) - 32) = false) (d6 : decide ((m : Int) ≤ i) = false) (d7 : (x == 0) = false) (d8 : rv.2 = 0) (d9 : g.2 = 0) :
    Calls Try.prog 10 #[.slice A ks.length c, .agg #[.int .i64 a0, .int .i64 a1, .int .i64 a2, .int .i64 a3, .int .i64 a4, .int .i64 a5, .int .i64 a6, .int .i64 a7, .int .i64 a8, .int .i64 a9, .int .i64 a10, .int .i64 a11, .int .i64 a12, .int .i64 a13, .int .i64 a14], .int .i64 i, .int .u8 x] w fun e w' => e = .returned (.bool true) ∧ Below w.heap.size w w' := by
  have hB := fun W hW => big_any A c ks W hW hl
  obtain ⟨hs1, hs2⟩ := enc_small ks [a0, a1, a2, a3, a4, a5, a6, a7, a8, a9, a10, a11, a12, a13, a14] rfl
  rw [hrv] at hs1 hs2
  have hE2 : ∀ W, RdK W A ks → Calls Try.prog 17 #[.slice A ks.length c, .agg #[.int .i64 a0, .int .i64 a1, .int .i64 a2, .int .i64 a3, .int .i64 a4, .int .i64 a5, .int .i64 a6, .int .i64 a7, .int .i64 a8, .int .i64 a9, .int .i64 a10, .int .i64 a11, .int .i64 a12, .int .i64 a13, .int .i64 a14]] W fun e w' => ∃ As cs, e = .returned (.tuple #[.slice As n cs, .int .i64 rv.2]) ∧ RdI w' .u8 As rv.1 ∧ n ≤ cs ∧ cs ≤ 9223372036854775807 ∧ Below W.heap.size W w' := by
    intro W hW
    have h := bcEncode_any A c ks a0 a1 a2 a3 a4 a5 a6 a7 a8 a9 a10 a11 a12 a13 a14 W hW hl
    rw [hrv] at h
    refine h.mono ?_
    rintro e w2 ⟨v, rfl, ho, hb2⟩
    obtain ⟨As, cs, rfl, u1, u2⟩ := own_slice ho
    unfold maxLen at u2
    exact ⟨As, cs, by rw [hn], RdI.of_own ho, by omega, by omega, hb2⟩
  have hG2 : ∀ As cs W, RdI W .u8 As rv.1 → n ≤ cs → cs ≤ 9223372036854775807 → Calls Try.prog 32 #[.slice As n cs] W fun e w' => ∃ Ab cb, e = .returned (.tuple #[.slice Ab m cb, .int .i64 g.2]) ∧ RdI w' .u8 Ab g.1 ∧ m ≤ cb ∧ cb ≤ 9223372036854775807 ∧ Below W.heap.size W w' := by
    intro As cs W h1 h2 h3
    have h := fortyGet_any As cs rv.1 W h1 (by omega) h3 hs2 (by omega)
    rw [hg, hn] at h
    refine h.mono ?_
    rintro e w2 ⟨v, rfl, ho, hb2⟩
    obtain ⟨Ab, cb, rfl, u1, u2⟩ := own_slice ho
    unfold maxLen at u2
    exact ⟨Ab, cb, by rw [hm], RdI.of_own ho, by omega, by omega, hb2⟩
  have hr1 := hr.below (bel1 w (.cells #[.int .i64 a0, .int .i64 a1, .int .i64 a2, .int .i64 a3, .int .i64 a4, .int .i64 a5, .int .i64 a6, .int .i64 a7, .int .i64 a8, .int .i64 a9, .int .i64 a10, .int .i64 a11, .int .i64 a12, .int .i64 a13, .int .i64 a14] 35)) (Nat.le_refl _)
  have B1 := bel1 w (.cells #[.int .i64 a0, .int .i64 a1, .int .i64 a2, .int .i64 a3, .int .i64 a4, .int .i64 a5, .int .i64 a6, .int .i64 a7, .int .i64 a8, .int .i64 a9, .int .i64 a10, .int .i64 a11, .int .i64 a12, .int .i64 a13, .int .i64 a14] 35)
  have d4' := of_decide_eq_false d4
  have d5' := of_decide_eq_false d5
  have d6' := of_decide_eq_false d6
  obtain ⟨k, rfl⟩ := Int.eq_ofNat_of_zero_le (show 0 ≤ i by omega)
  have hgl : g.1.length ≤ rv.1.length := forty_len g.1 (by rw [hg, ← d9])
  have hgb : ∀ x ∈ g.1, 0 ≤ x ∧ x < 256 := (fortyPut_get (s := rv.1) (l := g.1) (by rw [hg, ← d9])).2
  have hbk := hgb (g.1.getD k 0) (getD_mem (by omega))
  have hxx : bits .xor .u8 (g.1.getD k 0) x = xorB (g.1.getD k 0) x := xor8 hbk hx
  have hyb := xorB_byte hbk hx
  have hne : xorB (g.1.getD k 0) x ≠ g.1.getD k 0 := by
    intro e
    have h1 : xorB (xorB (g.1.getD k 0) x) (g.1.getD k 0) = 0 := (xorB_zero hyb hbk).2 e
    have h2 : x = 0 := by
      unfold xorB at h1
      simp only [Int.toNat_natCast] at h1
      have h3 : ((g.1.getD k 0).toNat ^^^ x.toNat) ^^^ (g.1.getD k 0).toNat = 0 := by exact_mod_cast h1
      have h4 : ((g.1.getD k 0).toNat ^^^ x.toNat) ^^^ (g.1.getD k 0).toNat = x.toNat := by
        rw [Nat.xor_comm (g.1.getD k 0).toNat x.toNat, Nat.xor_assoc, Nat.xor_self, Nat.xor_zero]
      rw [h4] at h3
      omega
    rw [h2] at d7
    simp at d7
  have hbad := seal_bad (ks := ks) (l := [a0, a1, a2, a3, a4, a5, a6, a7, a8, a9, a10, a11, a12, a13, a14]) (s := rv.1) (b := g.1) (c := g.1.set k (xorB (g.1.getD k 0) x)) (i := k) (y := xorB (g.1.getD k 0) x) rfl (by rw [hrv, ← d8]) (by rw [hg, ← d9]) (by omega) (by omega) hyb hne rfl
  obtain ⟨C, hC⟩ : ∃ C, g.1.set k (xorB (g.1.getD k 0) x) = C := ⟨_, rfl⟩
  have hCl : C.length = m := by rw [← hC, List.length_set, hm]
  have hCb : ∀ x ∈ C, 0 ≤ x ∧ x < 256 := by
    rw [← hC]
    intro z hz
    rcases List.mem_or_eq_of_mem_set hz with hz | rfl
    · exact hgb z hz
    · exact hyb
  rw [hC] at hbad
  have hdz := dec_err (ks := ks) (s := fortyPut C) (by rw [hbad]; omega)
  have hP2 : ∀ Ac cc W, RdI W .u8 Ac C → m ≤ cc → cc ≤ 9223372036854775807 → Calls Try.prog 33 #[.slice Ac m cc] W (ByteRet (fortyPut C) W) := by
    intro Ac cc W h1 h2 h3
    have h := fortyPut_any Ac cc C W h1 (by omega) h3 (by omega) hCb
    rw [hCl] at h
    exact h
  obtain ⟨F, hF⟩ : ∃ F, fortyPut C = F := ⟨_, rfl⟩
  have hFl : F.length ≤ 140737488351232 := by rw [← hF, fortyPut_len]; omega
  have hFb : ∀ x ∈ F, 0 ≤ x ∧ x < 256 := by rw [← hF]; exact fortyPut_byte C
  rw [hF] at hbad hdz hP2
  obtain ⟨nf, hnf⟩ : ∃ nf, F.length = nf := ⟨_, rfl⟩
  have hD2 : ∀ Af cf W, RdK W A ks → RdI W .u8 Af F → nf ≤ cf → cf ≤ 9223372036854775807 → Calls Try.prog 26 #[.slice A ks.length c, .slice Af nf cf] W fun e w' => e = .returned (.tuple #[.agg #[.int .i64 0, .int .i64 0, .int .i64 0, .int .i64 0, .int .i64 0, .int .i64 0, .int .i64 0, .int .i64 0, .int .i64 0, .int .i64 0, .int .i64 0, .int .i64 0, .int .i64 0, .int .i64 0, .int .i64 0], .int .i64 11]) ∧ Below W.heap.size W w' := by
    intro Af cf W h1 h2 h3 h4
    have h := bcDecode_any A c ks Af cf F W h1 hl h2 (by omega) h4 hFb hFl
    rw [show decE ks F = (zL, 11) from Prod.ext hdz hbad, hnf] at h
    exact h
  have HC := Lib.hid hC
  have HM := Lib.hid hm
  obtain ⟨i0, hi, hz0, hz1, hz2⟩ := info_parts infoB8
  have HN0 := Lib.hid hnf
  have hk0 : (0 : Int) ≤ (k : Int) := by omega
  have hk1 : (k : Int) < (m : Int) := by omega
  have hkm : k < m := by omega
  have hml : m ≤ 200000 := by omega
  clear hrv hg hn hm hC hnf d4' d5' d6' d8 d9 hbad hdz hgl hgb hne hCl hF hFl hs1 hs2 hbk
  obtain ⟨bk, hbk⟩ : ∃ bk, g.1.getD k 0 = bk := ⟨_, rfl⟩
  rw [hbk] at hxx hyb HC
  have HBK := Lib.hid hbk
  clear hbk
  obtain ⟨y, hy⟩ : ∃ y, xorB bk x = y := ⟨_, rfl⟩
  rw [hy] at hxx hyb HC
  clear hy
  go_enter Try.func10, Try.ntmps10
  go_wp2_with (first | (go_at_call 17; (with_reducible refine (hE2 _ hr1).mono ?_); rintro e w2 ⟨As, cs, rfl, S2, n1, n2, hb2⟩; have hr2 := hr1.below hb2 (Nat.le_refl _); have B2 := bT B1 hb2; clear hb2) | (go_at_call 32; (with_reducible refine (hG2 As cs _ S2 n1 n2).mono ?_); rintro e w3 ⟨Ab, cb, rfl, S3, m1, m2, hb3⟩; have hwn : IntKind.i64.wrap ((m : Int) - 32) = (m : Int) - 32 := (by rw [IntKind.wrap_i64]; omega); have hr3 := hr2.below hb3 (Nat.le_refl _); have B3 := bT B2 hb3; clear hb3) | (go_at_call 22; (with_reducible refine (hB _ hr3).mono ?_); rintro e w4 ⟨he, rfl⟩; rw [hbg] at he; subst he) | (go_at_call 24; (with_reducible refine (coded19_any _).mono ?_); rintro e w9 ⟨rfl, hb9⟩) | (at_builtin; refine wpL_app (k := .u8) rfl _ _ 24 rfl w3.heap.size 5 i0 (.int .u8 0) 1 Try.underlying24 hi hz0 hz1 hz2 rfl _ [] rfl (own_lit0 w3 _ .u8) Ab cb g.1 (by rw [HM.out]; rfl) (S3.below (bel1 w3 _)) ?_ ?_ ?_ ?_; (focus (rw [HM.out]; exact maxLen_ge (by simp; omega))); (focus (rw [HM.out]; simp; omega)); (focus (simp)); intro v5 w5 ho5 hg5 _; rw [List.nil_append, HM.out] at ho5; obtain ⟨g5, c5, cur5, rfl, q1, q2, q3, q4⟩ := own_some ho5 (by omega); have R5 : RdI w5 .u8 (some ⟨g5, 0, none⟩) g.1 := (by rw [← HM.out] at ho5; exact RdI.of_own ho5); have c5k : w5.cell? ⟨g5, k, none⟩ = some (.int .u8 bk) := (by have h := ho5.cellAt k (by omega); rw [h, List.getElem?_map, ← HBK.out]; have hkl : k < g.1.length := (by rw [HM.out]; exact hkm); simp [hkl]); have f5k : w5.frozen? ⟨g5, k, none⟩ = false := (by simp [World.frozen?, q4]); have hC5 := (bG (bel1 w3 (.cells #[] 5)) hg5 (own_ge (own_lit0 w3 5 .u8))).setCell (p := ⟨g5, k, none⟩) q1 (.int .u8 y); have R6 : RdI (w5.setCell ⟨g5, k, none⟩ (.int .u8 y)) .u8 (some ⟨g5, 0, none⟩) C := (by rw [← HC.out]; exact rdi_set R5 q4 (by rw [HM.out]; exact hkm)); have K6 := hr3.below hC5 (Nat.le_refl _); have B6 := bT B3 hC5; clear ho5 hg5) | (go_at_call 33; (with_reducible refine (hP2 _ c5 _ R6 q2 q3).mono ?_); rintro e w7 ⟨v7, rfl, ho7, hb7⟩; rw [HN0.out] at ho7; obtain ⟨Af, cf, rfl, r1, r2⟩ := own_slice ho7; unfold maxLen at r2; have R7 : RdI w7 .u8 Af F := (by rw [← HN0.out] at ho7; exact RdI.of_own ho7); have K7 := K6.below hb7 (Nat.le_refl _); have B7 := bT B6 hb7; clear ho7 hb7) | (go_at_call 26; (with_reducible refine (hD2 Af cf _ K7 R7 r1 (by omega)).mono ?_); rintro e w8 ⟨rfl, hb8⟩; have B8 := bA (bT B7 hb8) (.cells #[.int .i64 0, .int .i64 0, .int .i64 0, .int .i64 0, .int .i64 0, .int .i64 0, .int .i64 0, .int .i64 0, .int .i64 0, .int .i64 0, .int .i64 0, .int .i64 0, .int .i64 0, .int .i64 0, .int .i64 0] 35); clear hb8))
  go_ret
  exact ⟨rfl, bT B8 hb9⟩
theorem barcodeSeals_any (A : Option Addr) (c : Nat) (ks : List Ky) (a0 a1 a2 a3 a4 a5 a6 a7 a8 a9 a10 a11 a12 a13 a14 i x : Int) (w : World) (hr : RdK w A ks) (hl : ks.length ≤ 9223372036854775807) (hx : 0 ≤ x ∧ x < 256) :
    Calls Try.prog 10 #[.slice A ks.length c, .agg #[.int .i64 a0, .int .i64 a1, .int .i64 a2, .int .i64 a3, .int .i64 a4, .int .i64 a5, .int .i64 a6, .int .i64 a7, .int .i64 a8, .int .i64 a9, .int .i64 a10, .int .i64 a11, .int .i64 a12, .int .i64 a13, .int .i64 a14], .int .i64 i, .int .u8 x] w fun e w' => e = .returned (.bool true) ∧ Below w.heap.size w w' := by
  cases hbg : bigB ks with
  | true => exact barSeals_b0 A c ks a0 a1 a2 a3 a4 a5 a6 a7 a8 a9 a10 a11 a12 a13 a14 i x w hr hl hx _ _ _ _ rfl rfl rfl rfl hbg
  | false =>
    by_cases e1 : (encE ks [a0, a1, a2, a3, a4, a5, a6, a7, a8, a9, a10, a11, a12, a13, a14]).2 = 0
    rotate_left
    · exact barSeals_b1 A c ks a0 a1 a2 a3 a4 a5 a6 a7 a8 a9 a10 a11 a12 a13 a14 i x w hr hl hx _ _ _ _ rfl rfl rfl rfl hbg (by simpa using e1)
    by_cases e2 : (fortyGet (encE ks [a0, a1, a2, a3, a4, a5, a6, a7, a8, a9, a10, a11, a12, a13, a14]).1).2 = 0
    rotate_left
    · exact barSeals_b2 A c ks a0 a1 a2 a3 a4 a5 a6 a7 a8 a9 a10 a11 a12 a13 a14 i x w hr hl hx _ _ _ _ rfl rfl rfl rfl hbg (by simpa using e1) (by simpa using e2)
    obtain ⟨m, hm⟩ : ∃ m, (fortyGet (encE ks [a0, a1, a2, a3, a4, a5, a6, a7, a8, a9, a10, a11, a12, a13, a14]).1).1.length = m := ⟨_, rfl⟩
    by_cases e3 : (m : Int) < 32
    · exact barSeals_b3 A c ks a0 a1 a2 a3 a4 a5 a6 a7 a8 a9 a10 a11 a12 a13 a14 i x w hr hl hx _ _ _ m rfl rfl rfl hm hbg (by simpa using e1) (by simpa using e2) (decide_eq_true e3)
    by_cases e4 : i < (m : Int) - 32
    · exact barSeals_b4 A c ks a0 a1 a2 a3 a4 a5 a6 a7 a8 a9 a10 a11 a12 a13 a14 i x w hr hl hx _ _ _ m rfl rfl rfl hm hbg (by simpa using e1) (by simpa using e2) (decide_eq_false e3) (decide_eq_true e4)
    by_cases e5 : (m : Int) ≤ i
    · exact barSeals_b5 A c ks a0 a1 a2 a3 a4 a5 a6 a7 a8 a9 a10 a11 a12 a13 a14 i x w hr hl hx _ _ _ m rfl rfl rfl hm hbg (by simpa using e1) (by simpa using e2) (decide_eq_false e3) (decide_eq_false e4) (decide_eq_true e5)
    by_cases e6 : x = 0
    · exact barSeals_b6 A c ks a0 a1 a2 a3 a4 a5 a6 a7 a8 a9 a10 a11 a12 a13 a14 i x w hr hl hx _ _ _ m rfl rfl rfl hm hbg (by simpa using e1) (by simpa using e2) (decide_eq_false e3) (decide_eq_false e4) (decide_eq_false e5) (by simpa using e6)
    · exact barSeals_ok A c ks a0 a1 a2 a3 a4 a5 a6 a7 a8 a9 a10 a11 a12 a13 a14 i x w hr hl hx _ _ _ m rfl rfl rfl hm hbg (by simpa using e1) (by simpa using e2) (decide_eq_false e3) (decide_eq_false e4) (decide_eq_false e5) (by simpa using e6) e1 e2

end Go.Proofs.Ytiogogbkgekkdaa

namespace Go.Proofs.Ytiogogbkgekkdaa.barcodeSeals
open Go.ChangeShapes Go.WideShapes Go.ChangeAt Go.RowKit
open Go.ChangeMaps (open_string shut_string)
set_option linter.unusedVariables false
set_option maxRecDepth 100000
theorem own : ownKnob Try.prog.godebug = none := by kernel_rfl
theorem laidOut : laidOutB Try.prog = true := by kernel_rfl
set_option maxRecDepth 100000 in
theorem lifted (os : Os) (started : os.Started) (H : Type) (enc : TypeId × Value → H) :
    ReturnsInHanded {} Try.checked os 10 .any (Rows.barcodeSealsSpec.pre6 enc Try.prog Try.f10 Rows.barcodeSealsRow.domain false) (Rows.barcodeSealsSpec.post enc Try.prog Try.f10 false true false false) := by
  refine returnsInHanded_of_change_sized (C := Try.checked) own started (by kernel_rfl) Try.func10
    (ChangeSpec.witness6 (enc := enc) (C := Try.checked) false ⟨#[], #[.slice none 0 0, .agg #[.int .i64 0, .int .i64 0, .int .i64 0, .int .i64 0, .int .i64 0, .int .i64 0, .int .i64 0, .int .i64 0, .int .i64 0, .int .i64 0, .int .i64 0, .int .i64 0, .int .i64 0, .int .i64 0, .int .i64 0], .int .i64 0, .int .u8 0], []⟩ 8 (by kernel_rfl) (by kernel_rfl) (by kernel_rfl) (by kernel_rfl)) ?_
  intro W base args ds gs before hval0 hW hcnd hsz0 _
  have hsz : (DataW.weightsEach Try.prog (Try.f10.params.toList ++ Rows.barcodeSealsSpec.plain.varTypes Try.prog) (ds ++ gs)).all (· ≤ reachBytes) = true := hsz0
  have hval : ∀ (j : Nat) t v, Try.f10.params[j]? = some t → args[j]? = some v → Value.okWide Try.prog W .any base t v := hval0
  have hW' := hW
  obtain ⟨p, q, hA0, hV, rfl, hfz, hnd⟩ := hW
  have hA : DataW.TrodAll enc Try.prog W 0 (fun _ => true) true Try.f10.params.toList args.toList ds p := hA0
  rw [Try.params10] at hA hval hsz
  obtain ⟨v0, vs0, d0, ds0, p0, q0, hargs, rfl, rfl, h0, r0⟩ := trodAll_cons hA
  obtain ⟨v1, vs1, d1, ds1, p1, q1, rfl, rfl, rfl, h1, r1⟩ := trodAll_cons r0
  obtain ⟨v2, vs2, d2, ds2, p2, q2, rfl, rfl, rfl, h2, r2⟩ := trodAll_cons r1
  obtain ⟨v3, vs3, d3, ds3, p3, q3, rfl, rfl, rfl, h3, r3⟩ := trodAll_cons r2
  obtain ⟨rfl, rfl, rfl⟩ := trodAll_nil r3
  obtain rfl : args = #[v0, v1, v2, v3] := by cases args; simp_all
  obtain ⟨rfl, rfl⟩ := trodVars_none hV
  obtain ⟨A0, len0, cap0, rfl⟩ := okWide_slice Try.underlying28 (hval 0 28 v0 rfl rfl)
  have k0 := h0
  have lt0 : ∀ x ∈ p0, x.block < W.heap.size := by obtain ⟨m, hm⟩ := k0; exact DataW.trod_lt m _ _ _ hm
  obtain ⟨ks0, rfl, hr0, hl0⟩ : ∃ ks : List Ky, len0 = ks.length ∧ RdK W A0 ks ∧ ks.length ≤ 9223372036854775807 := by
    obtain ⟨fuel, hf⟩ := h0
    exact keys_open hf
  have k1 := h1
  have lt1 : ∀ x ∈ p1, x.block < W.heap.size := by obtain ⟨m, hm⟩ := k1; exact DataW.trod_lt m _ _ _ hm
  obtain ⟨cs1, rfl, hc1⟩ := okWide_struct Try.underlying35 (hval 1 35 v1 rfl rfl)
  obtain ⟨l1⟩ := cs1
  obtain ⟨fu1, hf1⟩ := h1
  have L1 := open_leaves 6 35 (by kernel_rfl) fu1 _ _ (by simpa [Value.cells] using hc1) hf1
  rw [show leavesOf Try.prog 6 35 = [3, 3, 3, 3, 3, 3, 3, 3, 3, 3, 3, 3, 3, 3, 3] from by kernel_rfl] at L1
  simp only [Value.cells] at L1
  obtain ⟨c1_0, m1_0, rfl, g1_0, L1⟩ := Lv_cons L1
  obtain ⟨c1_1, m1_1, rfl, g1_1, L1⟩ := Lv_cons L1
  obtain ⟨c1_2, m1_2, rfl, g1_2, L1⟩ := Lv_cons L1
  obtain ⟨c1_3, m1_3, rfl, g1_3, L1⟩ := Lv_cons L1
  obtain ⟨c1_4, m1_4, rfl, g1_4, L1⟩ := Lv_cons L1
  obtain ⟨c1_5, m1_5, rfl, g1_5, L1⟩ := Lv_cons L1
  obtain ⟨c1_6, m1_6, rfl, g1_6, L1⟩ := Lv_cons L1
  obtain ⟨c1_7, m1_7, rfl, g1_7, L1⟩ := Lv_cons L1
  obtain ⟨c1_8, m1_8, rfl, g1_8, L1⟩ := Lv_cons L1
  obtain ⟨c1_9, m1_9, rfl, g1_9, L1⟩ := Lv_cons L1
  obtain ⟨c1_10, m1_10, rfl, g1_10, L1⟩ := Lv_cons L1
  obtain ⟨c1_11, m1_11, rfl, g1_11, L1⟩ := Lv_cons L1
  obtain ⟨c1_12, m1_12, rfl, g1_12, L1⟩ := Lv_cons L1
  obtain ⟨c1_13, m1_13, rfl, g1_13, L1⟩ := Lv_cons L1
  obtain ⟨c1_14, m1_14, rfl, g1_14, L1⟩ := Lv_cons L1
  obtain rfl := Lv_nil L1
  obtain ⟨a1_0, rfl, w1_0⟩ := leaf_int Try.underlying3 g1_0
  obtain ⟨a1_1, rfl, w1_1⟩ := leaf_int Try.underlying3 g1_1
  obtain ⟨a1_2, rfl, w1_2⟩ := leaf_int Try.underlying3 g1_2
  obtain ⟨a1_3, rfl, w1_3⟩ := leaf_int Try.underlying3 g1_3
  obtain ⟨a1_4, rfl, w1_4⟩ := leaf_int Try.underlying3 g1_4
  obtain ⟨a1_5, rfl, w1_5⟩ := leaf_int Try.underlying3 g1_5
  obtain ⟨a1_6, rfl, w1_6⟩ := leaf_int Try.underlying3 g1_6
  obtain ⟨a1_7, rfl, w1_7⟩ := leaf_int Try.underlying3 g1_7
  obtain ⟨a1_8, rfl, w1_8⟩ := leaf_int Try.underlying3 g1_8
  obtain ⟨a1_9, rfl, w1_9⟩ := leaf_int Try.underlying3 g1_9
  obtain ⟨a1_10, rfl, w1_10⟩ := leaf_int Try.underlying3 g1_10
  obtain ⟨a1_11, rfl, w1_11⟩ := leaf_int Try.underlying3 g1_11
  obtain ⟨a1_12, rfl, w1_12⟩ := leaf_int Try.underlying3 g1_12
  obtain ⟨a1_13, rfl, w1_13⟩ := leaf_int Try.underlying3 g1_13
  obtain ⟨a1_14, rfl, w1_14⟩ := leaf_int Try.underlying3 g1_14
  obtain ⟨a2, rfl, rfl, rfl, w2⟩ := open_int Try.underlying3 (hval 2 3 v2 rfl rfl) h2
  obtain ⟨a3, rfl, rfl, rfl, w3⟩ := open_int Try.underlying5 (hval 3 5 v3 rfl rfl) h3
  clear hA0 hval0 hsz0 hsz
  refine (barcodeSeals_any A0 cap0 ks0 a1_0 a1_1 a1_2 a1_3 a1_4 a1_5 a1_6 a1_7 a1_8 a1_9 a1_10 a1_11 a1_12 a1_13 a1_14 a2 a3 W hr0 hl0 (wf8 w3)).mono fun e W' ⟨he, bel⟩ => ?_
  subst he
  exact ⟨_, rfl, _, _, _, [], _, [], hW', trodAll_mk1 (shut_bool Try.underlying4 _), (trodAll_cons_mk (Below.trod laidOut (by kernel_rfl) (of_decide_eq_true (by kernel_rfl)) k0 bel lt0) (trodAll_cons_mk (Below.trod laidOut (by kernel_rfl) (of_decide_eq_true (by kernel_rfl)) k1 bel lt1) (trodAll_cons_mk (shut_int Try.underlying3 w2) (trodAll_cons_mk (shut_int Try.underlying5 w3) trodAll_mk0)))), rfl, bel.frame _, fun h => by cases h⟩
theorem over : Rows.barcodeSealsRow.holds Try.pinned (OpenSpec.ofChange Rows.barcodeSealsSpec) :=
  OpenClaim.holds_of_wide 10 Try.f10 rfl rfl rfl rfl rfl rfl rfl ⟨rfl, rfl, rfl, rfl, rfl⟩ rfl rfl rfl rfl rfl (by kernel_rfl) Try.func10 (by kernel_rfl)
    (of_decide_eq_true (by kernel_rfl)) (by unfold Func.isWrapper; first | (rw [if_pos (by decide +kernel)]; kernel_rfl) | (rw [if_neg (by decide +kernel)]; exact ⟨rfl, rfl⟩))
    (fun os started H enc _ => lifted os started H enc)
theorem proved : Rows.BarcodeSealsSaid := over
#print axioms proved
end Go.Proofs.Ytiogogbkgekkdaa.barcodeSeals
namespace Go.Proofs.Ytiogogbkgekkdaa
theorem barcodeSeals_holds : Rows.BarcodeSealsSaid := barcodeSeals.proved
end Go.Proofs.Ytiogogbkgekkdaa

/- Layer 21's law AcrossForth, walked: a barcode that is made a stripe, and a barcode again, is what it was. The law AcrossForth, as a row: whatever the ring, the bytes, the journey and the key, the call returns true, and its arguments read as before. No condition. -/
import Derived.Test.YtnbghgenaolfgaaGreatZ29
import Derived.Test.YtnbghgenaolfgaaGreatRows
namespace Go.Proofs.YtnbghgenaolfgaaGreat
open Go.RowKit
set_option linter.unusedVariables false
set_option maxRecDepth 100000
set_option linter.unusedSimpArgs false

theorem toS_parts {ks : List Ky} {s b : List Int} {l i k : Int} (h : toS ks s l i k = (b, 0)) : ∃ a0 a1 a2 a3 a4 a5 a6 a7 a8 a9 a10 a11 a12 a13 a14, decE ks s = ([a0, a1, a2, a3, a4, a5, a6, a7, a8, a9, a10, a11, a12, a13, a14], 0) ∧ encS ks [a0, a1, a2, a3, a4, a5, a6, a7, a8, a9, a10, k, l, i, 0] = (b, 0) := by
  by_cases hz : (decE ks s).2 = 0
  · obtain ⟨a0, a1, a2, a3, a4, a5, a6, a7, a8, a9, a10, a11, a12, a13, a14, h15⟩ := len15x (decE_lenx ks s)
    have hd : decE ks s = ([a0, a1, a2, a3, a4, a5, a6, a7, a8, a9, a10, a11, a12, a13, a14], 0) := Prod.ext h15 hz
    rw [toS_ok hd] at h
    refine ⟨a0, a1, a2, a3, a4, a5, a6, a7, a8, a9, a10, a11, a12, a13, a14, hd, ?_⟩
    split at h
    · rename_i hne
      exact absurd (congrArg Prod.snd h) hne
    · rename_i hne
      have h1 := congrArg Prod.fst h
      exact Prod.ext h1 (by simpa using hne)
  · rw [toS_bad hz] at h
    exact absurd (congrArg Prod.snd h) hz
theorem across_forth {ks : List Ky} {s b : List Int} {l i k : Int} (h : toS ks s l i k = (b, 0)) : ∃ a0 a1 a2 a3 a4 a5 a6 a7 a8 a9 a10 a11 a12 a13 a14, decE ks s = ([a0, a1, a2, a3, a4, a5, a6, a7, a8, a9, a10, a11, a12, a13, a14], 0) ∧ toB ks b a14 a11 = (s, l, i, 0) ∧ b.length ≤ 50 ∧ (∀ x ∈ b, 0 ≤ x ∧ x < 256) := by
  obtain ⟨a0, a1, a2, a3, a4, a5, a6, a7, a8, a9, a10, a11, a12, a13, a14, h1, h2⟩ := toS_parts h
  obtain ⟨d1, _, d3, d4⟩ := st_back (l := [a0, a1, a2, a3, a4, a5, a6, a7, a8, a9, a10, k, l, i, 0]) rfl h2
  obtain ⟨_, _, rfl, rfl, _⟩ := decE_small h1
  refine ⟨a0, a1, a2, a3, a4, a5, a6, a7, a8, a9, a10, a11, 0, 0, a14, h1, ?_, d4, d3⟩
  rw [toB_ok d1, (dec_enc h1).2.1]
  rfl
set_option maxHeartbeats 8000000 in
set_option maxRecDepth 100000 in
theorem acForth_no (A : Option Addr) (c : Nat) (ks : List Ky) (B : Option Addr) (cb n : Nat) (s b : List Int) (l i k z : Int) (w : World) (hr : RdK w A ks) (hl : ks.length ≤ 9223372036854775807) (hs : RdI w .u8 B s)
    (b1 b2 b3 : Bool) (hbg : bigB ks = b1) (d2 : decide ((2000 : Int) < (n : Int)) = b2) (d3 : (z != 0) = b3) (hany : b1 = true ∨ b2 = true ∨ b3 = true)
    (hT : ∀ W, RdK W A ks → RdI W .u8 B s → Calls Tryz.prog 28 #[.slice A ks.length c, .slice B n cb, .agg #[.int .i64 l, .int .i64 i], .int .i64 k] W (ByteRetE (b, z) W)) :
    Calls Tryz.prog 10 #[.slice A ks.length c, .slice B n cb, .agg #[.int .i64 l, .int .i64 i], .int .i64 k] w fun e w' => e = .returned (.bool true) ∧ Below w.heap.size w w' := by
  have B0 := bel1 w (.cells #[.int .i64 l, .int .i64 i] 26)
  have P0 : (w.alloc (.cells #[.int .i64 l, .int .i64 i] 26)).heap[w.heap.size]? = some (.cells #[.int .i64 l, .int .i64 i] 26 (0, 0)) := heap_alloc_new w _
  have K0 := hr.below B0 (Nat.le_refl _)
  have S0 := hs.below B0
  have hBg := fun W hW => big_any A c ks W hW hl
  have HA := Lib.hid hany
  clear hany
  cases b1 <;> cases b2 <;> cases b3 <;> first | exact absurd HA.out (by decide) | skip
  all_goals
    go_enter Tryz.func10, Tryz.ntmps10
    go_wp2_with (first | (go_at_call 28; (with_reducible refine (hT _ K0 S0).mono ?_); rintro e w1 ⟨v1, rfl, ho, hb1⟩; have K1 := K0.below hb1 (Nat.le_refl _); have P1 := (hb1.block _ (Array.getElem?_eq_some_iff.1 P0).1).trans P0; have B1 := bT B0 hb1; clear hb1 ho) | (go_at_call 12; (with_reducible refine (hBg _ K1).mono ?_); rintro e w3 ⟨he, rfl⟩; rw [hbg] at he; subst he) | (go_at_call 27; (with_reducible refine (crossed_any _).mono ?_); rintro e w6 ⟨rfl, hb6⟩; have B6 := bT B1 hb6))
    go_ret
    exact ⟨rfl, B6⟩
set_option maxHeartbeats 8000000 in
set_option maxRecDepth 100000 in
theorem acForth_yes (A : Option Addr) (c : Nat) (ks : List Ky) (B : Option Addr) (cb n m : Nat) (s b : List Int) (a0 a1 a2 a3 a4 a5 a6 a7 a8 a9 a10 a11 a12 a13 a14 l i k : Int) (w : World) (hr : RdK w A ks) (hl : ks.length ≤ 9223372036854775807) (hs : RdI w .u8 B s) (HN : Hid (s.length = n)) (HM : Hid (b.length = m)) (hn9 : n ≤ 9000)
    (hbg : bigB ks = false) (d2 : decide ((2000 : Int) < (n : Int)) = false)
    (hT : ∀ W, RdK W A ks → RdI W .u8 B s → Calls Tryz.prog 28 #[.slice A ks.length c, .slice B n cb, .agg #[.int .i64 l, .int .i64 i], .int .i64 k] W (ByteRetE (b, 0) W))
    (hD : ∀ W, RdK W A ks → RdI W .u8 B s → Calls Tryz.prog 31 #[.slice A ks.length c, .slice B n cb] W fun e w' => e = .returned (.tuple #[.agg #[.int .i64 a0, .int .i64 a1, .int .i64 a2, .int .i64 a3, .int .i64 a4, .int .i64 a5, .int .i64 a6, .int .i64 a7, .int .i64 a8, .int .i64 a9, .int .i64 a10, .int .i64 a11, .int .i64 a12, .int .i64 a13, .int .i64 a14], .int .i64 0]) ∧ Below W.heap.size W w')
    (hB : ∀ A' c' W, RdK W A ks → RdI W .u8 A' b → Calls Tryz.prog 25 #[.slice A ks.length c, .slice A' m c', .int .i64 a14, .int .i64 a11] W (ToBRet (s, l, i, 0) W)) :
    Calls Tryz.prog 10 #[.slice A ks.length c, .slice B n cb, .agg #[.int .i64 l, .int .i64 i], .int .i64 k] w fun e w' => e = .returned (.bool true) ∧ Below w.heap.size w w' := by
  have B0 := bel1 w (.cells #[.int .i64 l, .int .i64 i] 26)
  have P0 : (w.alloc (.cells #[.int .i64 l, .int .i64 i] 26)).heap[w.heap.size]? = some (.cells #[.int .i64 l, .int .i64 i] 26 (0, 0)) := heap_alloc_new w _
  have K0 := hr.below B0 (Nat.le_refl _)
  have S0 := hs.below B0
  have hBg := fun W hW => big_any A c ks W hW hl
  have hQ : ∀ A' B' c' d' W, RdI W .u8 A' s → RdI W .u8 B' s → Calls Tryz.prog 16 #[.slice A' n c', .slice B' n d'] W fun e w' => e = .returned (.bool true) ∧ Below W.heap.size W w' := by
    intro A' B' c' d' W h2 h3
    have h := same01_any A' B' c' d' s s W h2 h3 (by rw [HN.out]; omega) (by rw [HN.out]; omega)
    rw [HN.out] at h
    refine h.mono ?_
    rintro e w' ⟨rfl, n, rfl⟩
    exact ⟨by simp, bN (bR _) n⟩
  go_enter Tryz.func10, Tryz.ntmps10
  go_wp2_with (first | (go_at_call 28; (with_reducible refine (hT _ K0 S0).mono ?_); rintro e w1 ⟨v1, rfl, ho, hb1⟩; have K1 := K0.below hb1 (Nat.le_refl _); have S1 := S0.below hb1; have P1 := (hb1.block _ (Array.getElem?_eq_some_iff.1 P0).1).trans P0; have B1 := bT B0 hb1; simp only [HM.out] at ho; obtain ⟨A1, c1, rfl, _, _⟩ := own_slice ho; have C1 := rd_own_len HM.out ho; clear hb1 ho) | (go_at_call 12; (with_reducible refine (hBg _ K1).mono ?_); rintro e w3 ⟨he, rfl⟩; rw [hbg] at he; subst he) | (go_at_call 31; (with_reducible refine (hD _ K1 S1).mono ?_); rintro e w4 ⟨rfl, hb4⟩; have hC := bA hb4 (.cells #[.int .i64 a0, .int .i64 a1, .int .i64 a2, .int .i64 a3, .int .i64 a4, .int .i64 a5, .int .i64 a6, .int .i64 a7, .int .i64 a8, .int .i64 a9, .int .i64 a10, .int .i64 a11, .int .i64 a12, .int .i64 a13, .int .i64 a14] 28); have K4 := K1.below hC (Nat.le_refl _); have S4 := S1.below hC; have C4 := C1.below hC; have P4 := (hC.block _ (Array.getElem?_eq_some_iff.1 P1).1).trans P1; have B4 := bT B1 hC; clear hb4 hC) | (go_at_call 25; (with_reducible refine (hB _ _ _ K4 C4).mono ?_); rintro e w5 ⟨v5, rfl, ho, hb5⟩; simp only [HN.out] at ho; obtain ⟨A5, c5, rfl, _, _⟩ := own_slice ho; have T5 := (rd_own_len HN.out ho).below (bel1 w5 (.cells #[.int .i64 l, .int .i64 i] 26)); have hC := bA hb5 (.cells #[.int .i64 l, .int .i64 i] 26); have Y5 : (w5.alloc (.cells #[.int .i64 l, .int .i64 i] 26)).heap[w5.heap.size]? = some (.cells #[.int .i64 l, .int .i64 i] 26 (0, 0)) := heap_alloc_new w5 _; have S5 := S4.below hC; have P5 := (hC.block _ (Array.getElem?_eq_some_iff.1 P4).1).trans P4; have B5 := bT B4 hC; clear ho hb5 hC) | (go_at_call 27; (with_reducible refine (crossed_any _).mono ?_); rintro e w6 ⟨rfl, hb6⟩; have S6 := S5.below hb6; have T6 := T5.below hb6; have P6 := (hb6.block _ (Array.getElem?_eq_some_iff.1 P5).1).trans P5; have Y6 := (hb6.block _ (Array.getElem?_eq_some_iff.1 Y5).1).trans Y5; have B6 := bT B5 hb6; obtain ⟨j0, j1, _, _⟩ := ac_cells2 P6; obtain ⟨j2, j3, _, _⟩ := ac_cells2 Y6; clear hb6) | (go_at_call 16; (with_reducible refine (hQ _ _ _ _ _ S6 T6).mono ?_); rintro e w7 ⟨rfl, hb7⟩; have B7 := bT B6 hb7))
  go_ret
  exact ⟨by simp, B7⟩
theorem acForth_any (A : Option Addr) (c : Nat) (ks : List Ky) (B : Option Addr) (cb : Nat) (s : List Int) (l i k : Int) (w : World) (hr : RdK w A ks) (hl : ks.length ≤ 9223372036854775807) (hs : RdI w .u8 B s) (hsc : s.length ≤ cb) (hs9 : cb ≤ 9223372036854775807) (hsb : ∀ x ∈ s, 0 ≤ x ∧ x < 256) (hsl : s.length ≤ 140737488351232) (hk : k ≤ 9223372036854775807) (hl9 : l ≤ 9223372036854775807) (hi9 : i ≤ 9223372036854775807) :
    Calls Tryz.prog 10 #[.slice A ks.length c, .slice B s.length cb, .agg #[.int .i64 l, .int .i64 i], .int .i64 k] w fun e w' => e = .returned (.bool true) ∧ Below w.heap.size w w' := by
  have hT := fun W h1 h2 => toStripe_any A c ks B cb s l i k W h1 hl h2 hsc hs9 hsb hsl hk hl9 hi9
  have hf := fun b => across_forth (ks := ks) (s := s) (b := b) (l := l) (i := i) (k := k)
  generalize toS ks s l i k = r at *
  obtain ⟨b, z⟩ := r
  by_cases hany : bigB ks = true ∨ decide ((2000 : Int) < (s.length : Int)) = true ∨ (z != 0) = true
  · exact acForth_no A c ks B cb s.length s b l i k z w hr hl hs _ _ _ rfl rfl rfl hany hT
  · have h1 : bigB ks = false := by cases h : bigB ks <;> simp_all
    have h2 : decide ((2000 : Int) < (s.length : Int)) = false := by cases h : decide ((2000 : Int) < (s.length : Int)) <;> simp_all
    have h3 : z = 0 := by
      by_cases h : z = 0
      · exact h
      · exact absurd (.inr (.inr (by simpa using h))) hany
    subst h3
    have hn : s.length ≤ 2000 := by have := of_decide_eq_false h2; omega
    obtain ⟨a0, a1, a2, a3, a4, a5, a6, a7, a8, a9, a10, a11, a12, a13, a14, f1, f2, f3, f4⟩ := hf b rfl
    refine acForth_yes A c ks B cb s.length b.length s b a0 a1 a2 a3 a4 a5 a6 a7 a8 a9 a10 a11 a12 a13 a14 l i k w hr hl hs (Lib.hid rfl) (Lib.hid rfl) (by omega) h1 h2 hT ?_ ?_
    · intro W g1 g2
      have h := bcDecode_any A c ks B cb s W g1 hl g2 hsc hs9 hsb hsl
      rw [f1] at h
      exact h
    · intro A' c' W g1 g2
      have h := toBarcode_any A c ks A' c' b a14 a11 W g1 hl g2 (by omega) f4
      rw [f2] at h
      exact h
end Go.Proofs.YtnbghgenaolfgaaGreat

namespace Go.Proofs.YtnbghgenaolfgaaGreat.acrossForth
open Go.ChangeShapes Go.WideShapes Go.ChangeAt Go.RowKit
open Go.ChangeMaps (open_string shut_string)
set_option linter.unusedVariables false
set_option maxRecDepth 100000
theorem own : ownKnob Tryz.prog.godebug = none := by kernel_rfl
theorem laidOut : laidOutB Tryz.prog = true := by kernel_rfl
set_option maxRecDepth 100000 in
theorem lifted (os : Os) (started : os.Started) (H : Type) (enc : TypeId × Value → H) :
    ReturnsInHanded {} Tryz.checked os 10 .any (Rows.acrossForthSpec.pre6 enc Tryz.prog Tryz.f10 Rows.acrossForthRow.domain false) (Rows.acrossForthSpec.post enc Tryz.prog Tryz.f10 false true false false) := by
  refine returnsInHanded_of_change_sized (C := Tryz.checked) own started (by kernel_rfl) Tryz.func10
    (ChangeSpec.witness6 (enc := enc) (C := Tryz.checked) false ⟨#[], #[.slice none 0 0, .slice none 0 0, .agg #[.int .i64 0, .int .i64 0], .int .i64 0], []⟩ 8 (by kernel_rfl) (by kernel_rfl) (by kernel_rfl) (by kernel_rfl)) ?_
  intro W base args ds gs before hval0 hW hcnd hsz0 _
  have hsz : (DataW.weightsEach Tryz.prog (Tryz.f10.params.toList ++ Rows.acrossForthSpec.plain.varTypes Tryz.prog) (ds ++ gs)).all (· ≤ reachBytes) = true := hsz0
  have hval : ∀ (j : Nat) t v, Tryz.f10.params[j]? = some t → args[j]? = some v → Value.okWide Tryz.prog W .any base t v := hval0
  have hW' := hW
  obtain ⟨p, q, hA0, hV, rfl, hfz, hnd⟩ := hW
  have hA : DataW.TrodAll enc Tryz.prog W 0 (fun _ => true) true Tryz.f10.params.toList args.toList ds p := hA0
  rw [Tryz.params10] at hA hval hsz
  obtain ⟨v0, vs0, d0, ds0, p0, q0, hargs, rfl, rfl, h0, r0⟩ := trodAll_cons hA
  obtain ⟨v1, vs1, d1, ds1, p1, q1, rfl, rfl, rfl, h1, r1⟩ := trodAll_cons r0
  obtain ⟨v2, vs2, d2, ds2, p2, q2, rfl, rfl, rfl, h2, r2⟩ := trodAll_cons r1
  obtain ⟨v3, vs3, d3, ds3, p3, q3, rfl, rfl, rfl, h3, r3⟩ := trodAll_cons r2
  obtain ⟨rfl, rfl, rfl⟩ := trodAll_nil r3
  obtain rfl : args = #[v0, v1, v2, v3] := by cases args; simp_all
  obtain ⟨rfl, rfl⟩ := trodVars_none hV
  obtain ⟨A0, len0, cap0, rfl⟩ := okWide_slice Tryz.underlying22 (hval 0 22 v0 rfl rfl)
  have k0 := h0
  have lt0 : ∀ x ∈ p0, x.block < W.heap.size := by obtain ⟨m, hm⟩ := k0; exact DataW.trod_lt m _ _ _ hm
  obtain ⟨ks0, rfl, hr0, hl0⟩ : ∃ ks : List Ky, len0 = ks.length ∧ RdK W A0 ks ∧ ks.length ≤ 9223372036854775807 := by
    obtain ⟨fuel, hf⟩ := h0
    exact keys_open hf
  obtain ⟨a1, len1, cap1, rfl⟩ := okWide_slice Tryz.underlying30 (hval 1 30 v1 rfl rfl)
  have k1 := h1
  have lt1 : ∀ x ∈ p1, x.block < W.heap.size := by obtain ⟨m, hm⟩ := k1; exact DataW.trod_lt m _ _ _ hm
  obtain ⟨z1, w1⟩ : ∃ zs, IsRow .u8 W a1 len1 cap1 zs := by
    obtain ⟨fuel, hf⟩ := h1
    rcases open_ints Tryz.underlying30 Tryz.underlying5 (by kernel_rfl) hf with ⟨hcs, _⟩ | ⟨x, l, c, zs, hcs, _, hl, hm, hz, _, hcell, hwz⟩
    · simp [Value.cells] at hcs
      obtain ⟨rfl, rfl, rfl⟩ := hcs
      exact ⟨[], .inl ⟨rfl, rfl, rfl, rfl⟩⟩
    · simp [Value.cells] at hcs
      obtain ⟨rfl, rfl, rfl⟩ := hcs
      exact ⟨zs, .inr ⟨_, rfl, hl, hm, by simpa using hz, hcell, hwz⟩⟩
  have hs1 : len1 ≤ 140737488351232 := by
    obtain ⟨fuel, hf⟩ := k1
    exact ints_sized Tryz.underlying30 Tryz.underlying5 (by kernel_rfl) (by kernel_rfl) hf hsz (j := 1) rfl rfl
  obtain ⟨hq1, hm1⟩ := row_caps w1
  obtain ⟨b1, rfl, hr1, hl1, hw1⟩ := rd_of_row w1
  have k2 := h2
  have lt2 : ∀ x ∈ p2, x.block < W.heap.size := by obtain ⟨m, hm⟩ := k2; exact DataW.trod_lt m _ _ _ hm
  obtain ⟨cs2, rfl, hc2⟩ := okWide_struct Tryz.underlying26 (hval 2 26 v2 rfl rfl)
  obtain ⟨l2⟩ := cs2
  obtain ⟨fu2, hf2⟩ := h2
  have L2 := open_leaves 6 26 (by kernel_rfl) fu2 _ _ (by simpa [Value.cells] using hc2) hf2
  rw [show leavesOf Tryz.prog 6 26 = [3, 3] from by kernel_rfl] at L2
  simp only [Value.cells] at L2
  obtain ⟨c2_0, m2_0, rfl, g2_0, L2⟩ := Lv_cons L2
  obtain ⟨c2_1, m2_1, rfl, g2_1, L2⟩ := Lv_cons L2
  obtain rfl := Lv_nil L2
  obtain ⟨a2_0, rfl, w2_0⟩ := leaf_int Tryz.underlying3 g2_0
  obtain ⟨a2_1, rfl, w2_1⟩ := leaf_int Tryz.underlying3 g2_1
  obtain ⟨a3, rfl, rfl, rfl, w3⟩ := open_int Tryz.underlying3 (hval 3 3 v3 rfl rfl) h3
  clear hA0 hval0 hsz0 hsz
  refine (acForth_any A0 cap0 ks0 a1 cap1 b1 a2_0 a2_1 a3 W hr0 hl0 hr1 hq1 hm1 (wfu8 hw1) hs1 (wf64 w3).2 (wf64 w2_0).2 (wf64 w2_1).2).mono fun e W' ⟨he, bel⟩ => ?_
  subst he
  exact ⟨_, rfl, _, _, _, [], _, [], hW', trodAll_mk1 (shut_bool Tryz.underlying4 _), (trodAll_cons_mk (Below.trod laidOut (by kernel_rfl) (of_decide_eq_true (by kernel_rfl)) k0 bel lt0) (trodAll_cons_mk (Below.trod laidOut (by kernel_rfl) (of_decide_eq_true (by kernel_rfl)) k1 bel lt1) (trodAll_cons_mk (Below.trod laidOut (by kernel_rfl) (of_decide_eq_true (by kernel_rfl)) k2 bel lt2) (trodAll_cons_mk (shut_int Tryz.underlying3 w3) trodAll_mk0)))), rfl, bel.frame _, fun h => by cases h⟩
theorem over : Rows.acrossForthRow.holds Tryz.pinned (OpenSpec.ofChange Rows.acrossForthSpec) :=
  OpenClaim.holds_of_wide 10 Tryz.f10 rfl rfl rfl rfl rfl rfl rfl ⟨rfl, rfl, rfl, rfl, rfl⟩ rfl rfl rfl rfl rfl (by kernel_rfl) Tryz.func10 (by kernel_rfl)
    (of_decide_eq_true (by kernel_rfl)) (by unfold Func.isWrapper; first | (rw [if_pos (by decide +kernel)]; kernel_rfl) | (rw [if_neg (by decide +kernel)]; exact ⟨rfl, rfl⟩))
    (fun os started H enc _ => lifted os started H enc)
theorem proved : Rows.AcrossForthSaid := over
#print axioms proved
end Go.Proofs.YtnbghgenaolfgaaGreat.acrossForth
namespace Go.Proofs.YtnbghgenaolfgaaGreat
theorem acrossForth_holds : Rows.AcrossForthSaid := acrossForth.proved
end Go.Proofs.YtnbghgenaolfgaaGreat


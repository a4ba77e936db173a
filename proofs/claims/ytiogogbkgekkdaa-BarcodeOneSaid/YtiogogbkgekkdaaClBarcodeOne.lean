/- An argument that is a slice of bytes: it reads as a list that memory has room for. Layer 19's law BarcodeOne, walked: what is decoded is encoded as the very same bytes. The law BarcodeOne, as a row: whatever the ring and the bytes, the call returns true, and its arguments read as before. No condition. -/
import Derived.Test.YtiogogbkgekkdaaM00
import Derived.SizedLaws
import Derived.Test.YtiogogbkgekkdaaM35
import Derived.Test.YtiogogbkgekkdaaM36
import Derived.Test.YtiogogbkgekkdaaM06
import Derived.Test.YtiogogbkgekkdaaRows
import Derived.Test.YtiogogbkgekkdaaM01
namespace Go.Proofs.Ytiogogbkgekkdaa
open Go.RowKit
set_option linter.unusedVariables false
set_option maxRecDepth 100000

theorem ints_sized {H : Type} {enc : TypeId × Value → H} {P : Program} {w : World} {held : Bool} {t e : TypeId} {k : IntKind} {fuel : Nat} {a : Option Addr} {len cap : Nat} {d : DataW H} {p : List MemPlace} (ht : P.underlying t = some (.slice e)) (he : P.underlying e = some (.int k)) (hc : P.cellsOf e = 1) (hb : P.bytesOf e = 1)
    (hf : DataW.trod enc P w 0 (fun _ => true) held fuel t [.slice a len cap] = some (d, p)) {ts : List TypeId} {ds : List (DataW H)} (hsz : (DataW.weightsEach P ts ds).all (· ≤ reachBytes) = true) {j : Nat} (hj : ts[j]? = some t) (hd : ds[j]? = some d) :
    len ≤ 140737488351232 := by
  rcases Go.ChangeShapes.open_ints ht he hc hf with ⟨hcs, _⟩ | ⟨x, l, c, zs, hcs, _, hl, hm, hz, hx, hcell, hwz⟩
  · have e : (Value.slice a len cap) = .slice none 0 0 := by simpa using hcs
    injection e with _ e _
    omega
  · have e : (Value.slice a len cap) = .slice (some x) l c := by simpa using hcs
    injection e with _ e1 e2
    obtain rfl : d = .slice (Go.ChangeShapes.lits k (zs.take l)) (Go.ChangeShapes.lits k (zs.drop l)) := congrArg Prod.fst hx
    have h := sized_slice hsz hj hd ht
    rw [hb] at h
    have hz' : zs.length = c := by simpa using hz
    simp only [Go.ChangeShapes.lits, List.length_map, List.length_take, List.length_drop] at h
    have hr : reachBytes = 140737488351232 := rfl
    omega
end Go.Proofs.Ytiogogbkgekkdaa

namespace Go.Proofs.Ytiogogbkgekkdaa
open Go.RowKit
set_option linter.unusedVariables false
set_option maxRecDepth 100000
set_option linter.unusedSimpArgs false

theorem drewN_below (w : World) (n : Nat) : Below w.heap.size w (w.drewN n) := bN (bR w) n
set_option maxHeartbeats 8000000 in
set_option maxRecDepth 100000 in
theorem barcodeOne_bad (A : Option Addr) (c : Nat) (ks : List Ky) (As : Option Addr) (cs n : Nat) (s : List Int) (w : World) (hn : s.length = n) (hr : RdK w A ks) (hl : ks.length ≤ 9223372036854775807) (hrs : RdI w .u8 As s) (hsc : n ≤ cs) (hs9 : cs ≤ 9223372036854775807) (hsb : ∀ x ∈ s, 0 ≤ x ∧ x < 256) (hsl : n ≤ 140737488351232)
    (bg : Bool) (hbg : bigB ks = bg) (b2 b3 : Bool) (d2 : decide ((2000 : Int) < (n : Int)) = b2) (d3 : ((decE ks s).2 != 0) = b3) (hany : bg = true ∨ b2 = true ∨ b3 = true) :
    Calls Try.prog 9 #[.slice A ks.length c, .slice As n cs] w fun e w' => e = .returned (.bool true) ∧ Below w.heap.size w w' := by
  have hB := fun W hW => big_any A c ks W hW hl
  have hD := bcDecode_any A c ks As cs s w hr hl hrs (by omega) hs9 hsb (by omega)
  rw [hn] at hD
  have hlen : (decE ks s).1.length = 15 := by
    unfold decE
    split
    · rfl
    split
    · rfl
    unfold decF
    split
    · rfl
    split
    · rfl
    split
    · exact fgE_len _
    · rfl
  generalize decE ks s = rv at *
  obtain ⟨x0, x1, x2, x3, x4, x5, x6, x7, x8, x9, x10, x11, x12, x13, x14, hX⟩ := list15 rv.1 hlen
  have hD2 : Calls Try.prog 26 #[.slice A ks.length c, .slice As n cs] w fun e w' => e = .returned (.tuple #[.agg #[.int .i64 x0, .int .i64 x1, .int .i64 x2, .int .i64 x3, .int .i64 x4, .int .i64 x5, .int .i64 x6, .int .i64 x7, .int .i64 x8, .int .i64 x9, .int .i64 x10, .int .i64 x11, .int .i64 x12, .int .i64 x13, .int .i64 x14], .int .i64 rv.2]) ∧ Below w.heap.size w w' := by
    refine hD.mono ?_
    rintro e w' ⟨rfl, hb⟩
    rw [hX]
    exact ⟨rfl, hb⟩
  clear hD hlen hX
  cases bg <;> cases b2 <;> cases b3
  · simp at hany
  all_goals
    go_enter Try.func9, Try.ntmps9
    go_wp2_with (first | (go_at_call 26; (with_reducible refine hD2.mono ?_); rintro e w2 ⟨rfl, hb2⟩; have hC2 := bA hb2 (.cells #[.int .i64 x0, .int .i64 x1, .int .i64 x2, .int .i64 x3, .int .i64 x4, .int .i64 x5, .int .i64 x6, .int .i64 x7, .int .i64 x8, .int .i64 x9, .int .i64 x10, .int .i64 x11, .int .i64 x12, .int .i64 x13, .int .i64 x14] 35); have hr2 := hr.below hC2 (Nat.le_refl _); clear hb2) | (go_at_call 22; (with_reducible refine (hB _ hr2).mono ?_); rintro e w3 ⟨he, rfl⟩; rw [hbg] at he; subst he) | (go_at_call 24; (with_reducible refine (coded19_any _).mono ?_); rintro e w4 ⟨rfl, hb4⟩))
    go_ret
    exact ⟨rfl, bT hC2 hb4⟩

set_option maxHeartbeats 8000000 in
set_option maxRecDepth 100000 in
theorem barcodeOne_ok (A : Option Addr) (c : Nat) (ks : List Ky) (As : Option Addr) (cs n : Nat) (s : List Int) (w : World) (hn : s.length = n) (hr : RdK w A ks) (hl : ks.length ≤ 9223372036854775807) (hrs : RdI w .u8 As s) (hsc : n ≤ cs) (hs9 : cs ≤ 9223372036854775807) (hsb : ∀ x ∈ s, 0 ≤ x ∧ x < 256) (hsl : n ≤ 140737488351232)
    (hbg : bigB ks = false) (d2 : decide ((2000 : Int) < (n : Int)) = false) (d3 : (decE ks s).2 = 0) :
    Calls Try.prog 9 #[.slice A ks.length c, .slice As n cs] w fun e w' => e = .returned (.bool true) ∧ Below w.heap.size w w' := by
  have hB := fun W hW => big_any A c ks W hW hl
  have hD := bcDecode_any A c ks As cs s w hr hl hrs (by omega) hs9 hsb (by omega)
  have hV := fun W hW => bcVersion_any As cs s W hW (by omega) hs9 hsb (by omega)
  obtain ⟨l, hle⟩ : ∃ l, decE ks s = (l, 0) := ⟨(decE ks s).1, Prod.ext rfl d3⟩
  obtain ⟨q1, q2, q3⟩ := dec_enc hle
  obtain ⟨x0, x1, x2, x3, x4, x5, x6, x7, x8, x9, x10, x11, x12, x13, x14, rfl⟩ := list15 l q1
  have hE := fun W hW => bcEncode_any A c ks x0 x1 x2 x3 x4 x5 x6 x7 x8 x9 x10 x11 x12 x13 x14 W hW hl
  rw [q2] at hE
  rw [hle, hn] at hD
  rw [q3, hn] at hV
  have hD2 : Calls Try.prog 26 #[.slice A ks.length c, .slice As n cs] w fun e w' => e = .returned (.tuple #[.agg #[.int .i64 x0, .int .i64 x1, .int .i64 x2, .int .i64 x3, .int .i64 x4, .int .i64 x5, .int .i64 x6, .int .i64 x7, .int .i64 x8, .int .i64 x9, .int .i64 x10, .int .i64 x11, .int .i64 x12, .int .i64 x13, .int .i64 x14], .int .i64 0]) ∧ Below w.heap.size w w' := hD
  have hV2 : ∀ W, RdI W .u8 As s → Calls Try.prog 28 #[.slice As n cs] W fun e w' => e = .returned (.tuple #[.int .i64 x14, .int .i64 0]) ∧ Below W.heap.size W w' := hV
  have hE2 : ∀ W, RdK W A ks → Calls Try.prog 17 #[.slice A ks.length c, .agg #[.int .i64 x0, .int .i64 x1, .int .i64 x2, .int .i64 x3, .int .i64 x4, .int .i64 x5, .int .i64 x6, .int .i64 x7, .int .i64 x8, .int .i64 x9, .int .i64 x10, .int .i64 x11, .int .i64 x12, .int .i64 x13, .int .i64 x14]] W fun e w' => ∃ Ac cc, e = .returned (.tuple #[.slice Ac n cc, .int .i64 0]) ∧ RdI w' .u8 Ac s ∧ Below W.heap.size W w' := by
    intro W hW
    refine (hE W hW).mono ?_
    rintro e w2 ⟨v, rfl, ho, hb2⟩
    obtain ⟨Ac, cc, rfl, u1, u2⟩ := own_slice ho
    exact ⟨Ac, cc, by rw [← hn], RdI.of_own ho, hb2⟩
  have hSm : ∀ (Ac : Option Addr) (cc : Nat) (W : World), RdI W .u8 As s → RdI W .u8 Ac s → Calls Try.prog 25 #[.slice As n cs, .slice Ac n cc] W fun e w' => e = .returned (.bool true) ∧ Below W.heap.size W w' := by
    intro Ac cc W h1 h2
    have h := same01_any As Ac cs cc s s W h1 h2 (by omega) (by omega)
    rw [hn] at h
    refine h.mono ?_
    rintro e w' ⟨rfl, k, rfl⟩
    exact ⟨by simp, drewN_below W k⟩
  clear hD hV hE q1 q2 q3 hle d3
  go_enter Try.func9, Try.ntmps9
  go_wp2_with (first | (go_at_call 26; (with_reducible refine hD2.mono ?_); rintro e w2 ⟨rfl, hb2⟩; have hC2 := bA hb2 (.cells #[.int .i64 x0, .int .i64 x1, .int .i64 x2, .int .i64 x3, .int .i64 x4, .int .i64 x5, .int .i64 x6, .int .i64 x7, .int .i64 x8, .int .i64 x9, .int .i64 x10, .int .i64 x11, .int .i64 x12, .int .i64 x13, .int .i64 x14] 35); have X2 := heap_alloc_new w2 (.cells #[.int .i64 x0, .int .i64 x1, .int .i64 x2, .int .i64 x3, .int .i64 x4, .int .i64 x5, .int .i64 x6, .int .i64 x7, .int .i64 x8, .int .i64 x9, .int .i64 x10, .int .i64 x11, .int .i64 x12, .int .i64 x13, .int .i64 x14] 35); have hr2 := hr.below hC2 (Nat.le_refl _); have S2 := hrs.below hC2; clear hb2) | (go_at_call 22; (with_reducible refine (hB _ hr2).mono ?_); rintro e w3 ⟨he, rfl⟩; rw [hbg] at he; subst he) | (go_at_call 17; (with_reducible refine (hE2 _ hr2).mono ?_); rintro e w4 ⟨Ac, cc, rfl, hc4, hb4⟩; have X4 := (hb4.block w2.heap.size (by simp)).trans X2; have S4 := S2.below hb4; have B4 := bT hC2 hb4; clear hb4) | (go_at_call 28; (with_reducible refine (hV2 _ S4).mono ?_); rintro e w5 ⟨rfl, hb5⟩; have X5 := (hb5.block w2.heap.size (Array.getElem?_eq_some_iff.1 X4).1).trans X4; have S5 := S4.below hb5; have C5 := hc4.below hb5; have B5 := bT B4 hb5; clear hb5) | (go_at_call 24; (with_reducible refine (coded19_any _).mono ?_); rintro e w6 ⟨rfl, hb6⟩; have X6 := (hb6.block w2.heap.size (Array.getElem?_eq_some_iff.1 X5).1).trans X5; have S6 := S5.below hb6; have C6 := C5.below hb6; have B6 := bT B5 hb6; clear hb6) | (go_at_call 25; (with_reducible refine (hSm Ac cc _ S6 C6).mono ?_); rintro e w7 ⟨rfl, hb7⟩; have X7 := (hb7.block w2.heap.size (Array.getElem?_eq_some_iff.1 X6).1).trans X6; have hv7 := cell_of_row _ w2.heap.size 14 _ _ _ X7; have B7 := bT B6 hb7; clear hb7))
  go_ret
  exact ⟨by simp, B7⟩
theorem barcodeOne_any (A : Option Addr) (c : Nat) (ks : List Ky) (As : Option Addr) (cs : Nat) (s : List Int) (w : World) (hr : RdK w A ks) (hl : ks.length ≤ 9223372036854775807) (hrs : RdI w .u8 As s) (hsc : s.length ≤ cs) (hs9 : cs ≤ 9223372036854775807) (hsb : ∀ x ∈ s, 0 ≤ x ∧ x < 256) (hsl : s.length ≤ 140737488351232) :
    Calls Try.prog 9 #[.slice A ks.length c, .slice As s.length cs] w fun e w' => e = .returned (.bool true) ∧ Below w.heap.size w w' := by
  obtain ⟨n, hn⟩ : ∃ n, s.length = n := ⟨_, rfl⟩
  rw [hn] at hsc hsl ⊢
  by_cases h : bigB ks = true ∨ decide ((2000 : Int) < (n : Int)) = true ∨ ((decE ks s).2 != 0) = true
  · exact barcodeOne_bad A c ks As cs n s w hn hr hl hrs hsc hs9 hsb hsl _ rfl _ _ rfl rfl h
  · exact barcodeOne_ok A c ks As cs n s w hn hr hl hrs hsc hs9 hsb hsl (by cases hb : bigB ks <;> simp_all) (by cases hd : decide ((2000 : Int) < (n : Int)) <;> simp_all) (by
      have h3 : ¬ ((decE ks s).2 != 0) = true := fun h3 => h (.inr (.inr h3))
      simpa using h3)
end Go.Proofs.Ytiogogbkgekkdaa

namespace Go.Proofs.Ytiogogbkgekkdaa.barcodeOne
open Go.ChangeShapes Go.WideShapes Go.ChangeAt Go.RowKit
open Go.ChangeMaps (open_string shut_string)
set_option linter.unusedVariables false
set_option maxRecDepth 100000
theorem own : ownKnob Try.prog.godebug = none := by kernel_rfl
theorem laidOut : laidOutB Try.prog = true := by kernel_rfl
set_option maxRecDepth 100000 in
theorem lifted (os : Os) (started : os.Started) (H : Type) (enc : TypeId × Value → H) :
    ReturnsInHanded {} Try.checked os 9 .any (Rows.barcodeOneSpec.pre6 enc Try.prog Try.f9 Rows.barcodeOneRow.domain false) (Rows.barcodeOneSpec.post enc Try.prog Try.f9 false true false false) := by
  refine returnsInHanded_of_change_sized (C := Try.checked) own started (by kernel_rfl) Try.func9
    (ChangeSpec.witness6 (enc := enc) (C := Try.checked) false ⟨#[], #[.slice none 0 0, .slice none 0 0], []⟩ 8 (by kernel_rfl) (by kernel_rfl) (by kernel_rfl) (by kernel_rfl)) ?_
  intro W base args ds gs before hval0 hW hcnd hsz0 _
  have hsz : (DataW.weightsEach Try.prog (Try.f9.params.toList ++ Rows.barcodeOneSpec.plain.varTypes Try.prog) (ds ++ gs)).all (· ≤ reachBytes) = true := hsz0
  have hval : ∀ (j : Nat) t v, Try.f9.params[j]? = some t → args[j]? = some v → Value.okWide Try.prog W .any base t v := hval0
  have hW' := hW
  obtain ⟨p, q, hA0, hV, rfl, hfz, hnd⟩ := hW
  have hA : DataW.TrodAll enc Try.prog W 0 (fun _ => true) true Try.f9.params.toList args.toList ds p := hA0
  rw [Try.params9] at hA hval hsz
  obtain ⟨v0, vs0, d0, ds0, p0, q0, hargs, rfl, rfl, h0, r0⟩ := trodAll_cons hA
  obtain ⟨v1, vs1, d1, ds1, p1, q1, rfl, rfl, rfl, h1, r1⟩ := trodAll_cons r0
  obtain ⟨rfl, rfl, rfl⟩ := trodAll_nil r1
  obtain rfl : args = #[v0, v1] := by cases args; simp_all
  obtain ⟨rfl, rfl⟩ := trodVars_none hV
  obtain ⟨A0, len0, cap0, rfl⟩ := okWide_slice Try.underlying28 (hval 0 28 v0 rfl rfl)
  have k0 := h0
  have lt0 : ∀ x ∈ p0, x.block < W.heap.size := by obtain ⟨m, hm⟩ := k0; exact DataW.trod_lt m _ _ _ hm
  obtain ⟨ks0, rfl, hr0, hl0⟩ : ∃ ks : List Ky, len0 = ks.length ∧ RdK W A0 ks ∧ ks.length ≤ 9223372036854775807 := by
    obtain ⟨fuel, hf⟩ := h0
    exact keys_open hf
  obtain ⟨a1, len1, cap1, rfl⟩ := okWide_slice Try.underlying24 (hval 1 24 v1 rfl rfl)
  have k1 := h1
  have lt1 : ∀ x ∈ p1, x.block < W.heap.size := by obtain ⟨m, hm⟩ := k1; exact DataW.trod_lt m _ _ _ hm
  obtain ⟨z1, w1⟩ : ∃ zs, IsRow .u8 W a1 len1 cap1 zs := by
    obtain ⟨fuel, hf⟩ := h1
    rcases open_ints Try.underlying24 Try.underlying5 (by kernel_rfl) hf with ⟨hcs, _⟩ | ⟨x, l, c, zs, hcs, _, hl, hm, hz, _, hcell, hwz⟩
    · simp [Value.cells] at hcs
      obtain ⟨rfl, rfl, rfl⟩ := hcs
      exact ⟨[], .inl ⟨rfl, rfl, rfl, rfl⟩⟩
    · simp [Value.cells] at hcs
      obtain ⟨rfl, rfl, rfl⟩ := hcs
      exact ⟨zs, .inr ⟨_, rfl, hl, hm, by simpa using hz, hcell, hwz⟩⟩
  have hs1 : len1 ≤ 140737488351232 := by
    obtain ⟨fuel, hf⟩ := k1
    exact ints_sized Try.underlying24 Try.underlying5 (by kernel_rfl) (by kernel_rfl) hf hsz (j := 1) rfl rfl
  obtain ⟨hq1, hm1⟩ := row_caps w1
  obtain ⟨b1, rfl, hr1, hl1, hw1⟩ := rd_of_row w1
  clear hA0 hval0 hsz0 hsz
  refine (barcodeOne_any A0 cap0 ks0 a1 cap1 b1 W hr0 hl0 hr1 hq1 hm1 (wfu8 hw1) hs1).mono fun e W' ⟨he, bel⟩ => ?_
  subst he
  exact ⟨_, rfl, _, _, _, [], _, [], hW', trodAll_mk1 (shut_bool Try.underlying4 _), (trodAll_cons_mk (Below.trod laidOut (by kernel_rfl) (of_decide_eq_true (by kernel_rfl)) k0 bel lt0) (trodAll_cons_mk (Below.trod laidOut (by kernel_rfl) (of_decide_eq_true (by kernel_rfl)) k1 bel lt1) trodAll_mk0)), rfl, bel.frame _, fun h => by cases h⟩
theorem over : Rows.barcodeOneRow.holds Try.pinned (OpenSpec.ofChange Rows.barcodeOneSpec) :=
  OpenClaim.holds_of_wide 9 Try.f9 rfl rfl rfl rfl rfl rfl rfl ⟨rfl, rfl, rfl, rfl, rfl⟩ rfl rfl rfl rfl rfl (by kernel_rfl) Try.func9 (by kernel_rfl)
    (of_decide_eq_true (by kernel_rfl)) (by unfold Func.isWrapper; first | (rw [if_pos (by decide +kernel)]; kernel_rfl) | (rw [if_neg (by decide +kernel)]; exact ⟨rfl, rfl⟩))
    (fun os started H enc _ => lifted os started H enc)
theorem proved : Rows.BarcodeOneSaid := over
#print axioms proved
end Go.Proofs.Ytiogogbkgekkdaa.barcodeOne
namespace Go.Proofs.Ytiogogbkgekkdaa
theorem barcodeOne_holds : Rows.BarcodeOneSaid := barcodeOne.proved
end Go.Proofs.Ytiogogbkgekkdaa

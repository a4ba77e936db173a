/- Layer 19, the reference's tag of a barcode; the law's function. Condition: not more than 1000 bytes. A leaf of an argument that is a slice of numbers: it reads as a list. An argument that is a slice of bytes: it reads as a list that memory has room for. No condition. -/
import Derived.Test.YtachkhjbckapoaaB13
import Derived.Test.YtachkhjbckapoaaB34
import Derived.DeepKeys
import Derived.Test.YtachkhjbckapoaaB00
import Derived.SizedLaws
namespace Go.Proofs.Ytachkhjbckapoaa
open Go.RowKit
set_option linter.unusedVariables false
set_option maxRecDepth 100000
set_option linter.unusedSimpArgs false

theorem list32 (l : List Int) (h : l.length = 32) : ∃ x0 x1 x2 x3 x4 x5 x6 x7 x8 x9 x10 x11 x12 x13 x14 x15 x16 x17 x18 x19 x20 x21 x22 x23 x24 x25 x26 x27 x28 x29 x30 x31 : Int, l = [x0, x1, x2, x3, x4, x5, x6, x7, x8, x9, x10, x11, x12, x13, x14, x15, x16, x17, x18, x19, x20, x21, x22, x23, x24, x25, x26, x27, x28, x29, x30, x31] := by
  match l, h with
  | [x0, x1, x2, x3, x4, x5, x6, x7, x8, x9, x10, x11, x12, x13, x14, x15, x16, x17, x18, x19, x20, x21, x22, x23, x24, x25, x26, x27, x28, x29, x30, x31], _ => exact ⟨x0, x1, x2, x3, x4, x5, x6, x7, x8, x9, x10, x11, x12, x13, x14, x15, x16, x17, x18, x19, x20, x21, x22, x23, x24, x25, x26, x27, x28, x29, x30, x31, rfl⟩
theorem mapM_some {α β : Type} (f : α → Option β) (g : α → β) : ∀ (l : List α), (∀ a ∈ l, f a = some (g a)) → l.mapM f = some (l.map g)
  | [], _ => rfl
  | a :: l, h => by rw [List.mapM_cons, h a (by simp), mapM_some f g l (fun b hb => h b (by simp [hb]))]; rfl
theorem formed32 (T : List Int) (h : T.length = 32) : (Value.agg (bv T).toArray).formed Try.prog 42 = true := by
  obtain ⟨x0, x1, x2, x3, x4, x5, x6, x7, x8, x9, x10, x11, x12, x13, x14, x15, x16, x17, x18, x19, x20, x21, x22, x23, x24, x25, x26, x27, x28, x29, x30, x31, rfl⟩ := list32 T h
  kernel_rfl
theorem lits32 (T : List Int) (h : T.length = 32) (hb : ∀ x ∈ T, 0 ≤ x ∧ x < 256) : (Try.prog.keyLits 5 42 (Value.agg (bv T).toArray).cells.toList).isSome = true := by
  have hc1 : Try.prog.cellsOf 5 = 1 := by kernel_rfl
  have hc32 : Try.prog.cellsOf 42 = 32 := by kernel_rfl
  have hk : ∀ i ∈ List.range 32, Try.prog.keyLits 4 5 (((bv T).drop (i * 1)).take 1) = some [Lit.int .u8 (T.getD i 0)] := by
    intro i hi
    have hi' : i < T.length := by rw [h]; simpa using hi
    have e : ((bv T).drop (i * 1)).take 1 = [.int .u8 (T.getD i 0)] := by
      rw [List.take_one, Nat.mul_one, List.head?_drop, bv_at hi']; rfl
    have hx := hb _ (getD_mem hi')
    have hwf : (Lit.int .u8 (T.getD i 0)).wf = true := WalkArith.wf_u8 (by omega)
    rw [e]
    simp only [Program.keyLits, Try.underlying5, hwf, and_self, if_true]
  have hm := mapM_some _ _ _ hk
  unfold Program.keyLits
  simp only [Try.underlying42, Value.cells, hc1, hc32]
  rw [if_pos (by rw [bv_len]; exact h)]
  rw [hm]
  rfl
theorem eq32 (T : List Int) (h : T.length = 32) (hb : ∀ x ∈ T, 0 ≤ x ∧ x < 256) (w : World) : (Op.equalIn 10000 42 (.agg (bv T).toArray) (.agg (bv T).toArray)).run Try.prog w = .ok true w := by
  have hk : Try.prog.keyTypeAt 3 42 = true := by kernel_rfl
  have hf := formed32 T h
  obtain ⟨la, hla⟩ := Option.isSome_iff_exists.1 (lits32 T h hb)
  obtain ⟨r, hr, hiff⟩ := run_equalIn_deep (P := Try.prog) 9997 3 42 hk w 5 5 _ _ la la hf hf hla hla
  rw [hiff.2 rfl] at hr
  exact hr
set_option maxHeartbeats 4000000 in
theorem ref19Tag_any (A B : Option Addr) (c d : Nat) (s l : List Int) (w : World) (hr : RdI w .u8 A s) (hs : RdI w .u8 B l) (hsl : s.length ≤ 700000) (hsc : s.length ≤ c) (hl : l.length ≤ 700000) (hsb : ∀ x ∈ s, 0 ≤ x ∧ x < 256) (hlb : ∀ x ∈ l, 0 ≤ x ∧ x < 256) :
    Calls Try.prog 18 #[.slice A s.length c, .slice B l.length d] w fun e w' => e = .returned (.agg (bv (tagN s (66 :: l))).toArray) ∧ Below w.heap.size w w' := by
  obtain ⟨i0, hi, hz0, hz1, hz2⟩ := info_parts infoB8
  have hb0 : Below w.heap.size w ((w.alloc (.cells (bv (List.replicate 32 0)).toArray 42)).alloc (.cells #[.int .u8 66] 5)) := bA (bel1 w _) _
  have HS0 := Lib.hid (hs.below hb0)
  have HR0 := Lib.hid hr
  have HB0 := Lib.hid hb0
  have HG0 : Hid (((w.alloc (.cells (bv (List.replicate 32 0)).toArray 42)).alloc (.cells #[.int .u8 66] 5)).heap[w.heap.size]? = some (.cells (bv (List.replicate 32 0)).toArray 42 (0, 0))) := Lib.hid (heap_alloc2_old w _ _)
  have HO : Hid (((w.alloc (.cells (bv (List.replicate 32 0)).toArray 42)).alloc (.cells #[.int .u8 66] 5)).ownsRow (w.heap.size + 1) 5 1 (.slice (some ⟨w.heap.size + 1, 0, none⟩) 1 1) [(66 : Int)].length ([(66 : Int)].map (.int .u8))) := Lib.hid (by
    have q := own_lit1 (w.alloc (.cells (bv (List.replicate 32 0)).toArray 42)) .u8 66 5
    simpa only [World.size_alloc] using q)
  have HSZ : Hid (((w.alloc (.cells (bv (List.replicate 32 0)).toArray 42)).alloc (.cells #[.int .u8 66] 5)).heap.size = w.heap.size + 1 + 1) := Lib.hid (by simp)
  have HSC := Lib.hid hsc
  have HSB := Lib.hid hsb
  have HLB := Lib.hid (show ∀ x ∈ (66 :: l), 0 ≤ x ∧ x < 256 from fun x hx => by
    rcases List.mem_cons.1 hx with rfl | h
    · decide
    · exact hlb x h)
  clear hr hs hlb hb0 hsb hsc
  go_enter Try.func18, Try.ntmps18
  obtain ⟨wz, hwz⟩ : ∃ wz, ((w.alloc (.cells (bv (List.replicate 32 0)).toArray 42)).alloc (.cells #[.int .u8 66] 5)) = wz := ⟨_, rfl⟩
  rw [hwz] at HS0 HB0 HG0 HO HSZ
  have HWZ := Lib.hid hwz
  clear hwz
  go_wp2_with (at_builtin; go_loud (generalize hWg : World.alloc _ _ = wg; obtain rfl : wz = wg := (by rw [← HWZ.out, ← hWg]; kernel_rfl); clear hWg; refine wpL_app (k := .u8) rfl (.tmp 8) (.tmp 9) 30 rfl (w.heap.size + 1) 5 i0 (.int .u8 0) 1 Try.underlying30 hi hz0 hz1 hz2 rfl _ [(66 : Int)] rfl HO.out _ _ l rfl HS0.out ?_ ?_ ?_ ?_; (focus (refine maxLen_ge ?_; simp only [List.length_cons, List.length_nil]; omega)); (focus (simp only [List.length_cons, List.length_nil]; omega)); (focus (have := HSZ.out; omega)); intro v5 w5 ho5 hg5 hk5; have HO5 := Lib.hid ho5; have HB5 := Lib.hid (show Below (w.heap.size + 1) wz w5 from (Below.refl _ _).grown hg5 (by have := HSZ.out; omega) (own_ge HO.out)); clear ho5 hg5 hk5))
  obtain ⟨A5, c5, rfl, hc5, _⟩ := own_slice HO5.out
  have hr5 := RdI.of_own HO5.out
  have hz5 := HB5.out.size
  refine (refTag3_any A A5 c c5 s ([66] ++ l) w5 (HR0.out.below (bTg HB0.out HB5.out (by omega))) hr5 (by omega) HSC.out (by simp; omega) HSB.out HLB.out).mono ?_
  rintro e w6 ⟨rfl, hb6⟩
  obtain ⟨T, hT⟩ : ∃ T, tagN s ([66] ++ l) = T := ⟨_, rfl⟩
  have hTl : T.length = 32 := by rw [← hT]; exact tagN_len _ _
  have hTE : tagN s (66 :: l) = T := hT
  have HTL := Lib.hid hTl
  have HTF := Lib.hid hTE
  rw [hT]
  have hgz := (HB5.out.block w.heap.size (by omega)).trans HG0.out
  have HG6 := Lib.hid ((hb6.block w.heap.size (by have := HSZ.out; omega)).trans hgz)
  have HBE := Lib.hid (bTg (bTg HB0.out HB5.out (by omega)) hb6 (by have := HSZ.out; omega))
  clear hT hTl hTE hb6 hz5 hr5 hgz
  go_wp2_with (refine wpList_store_row rfl 42 (.tmp 4) _ rfl w.heap.size (bv T).toArray rfl rfl 42 _ HG6.out ?_ ?_ (all_one (bv_one _)) ?_; (focus (rw [List.size_toArray, bv_len, HTL.out]; exact info32)); (focus (rw [List.size_toArray, bv_len, List.size_toArray, bv_len, HTL.out]; rfl)))
  refine bodyPost_ret (v := .agg (bv T).toArray) (results_cell_row rfl _ _ w.heap.size 42 (bv T).toArray (0, 0) _ rfl (setRow_heap _ _ _ _ _ _ HG6.out) Try.underlying42 rfl (by rw [List.size_toArray, bv_len, HTL.out]; exact info32)) rfl ⟨by rw [← HTF.out], setRow_below HBE.out (Nat.le_refl _)⟩
theorem bcTag_len (A B : Option Addr) (c d n m : Nat) (s l : List Int) (w : World) (hn : s.length = n) (hm : l.length = m) (hr : RdI w .u8 A s) (hs : RdI w .u8 B l) (hsl : n ≤ 1000) (hl : m ≤ 1000) (hsb : ∀ x ∈ s, 0 ≤ x ∧ x < 256) (hlb : ∀ x ∈ l, 0 ≤ x ∧ x < 256) :
    Calls Try.prog 17 #[.slice A n c, .slice B m d] w fun e w' => e = .returned (.agg (bv (tagN s (66 :: l))).toArray) ∧ Below w.heap.size w w' := by
  subst hn hm
  exact bcTag_any A B c d s l w hr hs (by omega) (by omega) hsb hlb
theorem ref19Tag_len (A B : Option Addr) (c d n m : Nat) (s l : List Int) (w : World) (hn : s.length = n) (hm : l.length = m) (hr : RdI w .u8 A s) (hs : RdI w .u8 B l) (hsl : n ≤ 1000) (hsc : n ≤ c) (hl : m ≤ 1000) (hsb : ∀ x ∈ s, 0 ≤ x ∧ x < 256) (hlb : ∀ x ∈ l, 0 ≤ x ∧ x < 256) :
    Calls Try.prog 18 #[.slice A n c, .slice B m d] w fun e w' => e = .returned (.agg (bv (tagN s (66 :: l))).toArray) ∧ Below w.heap.size w w' := by
  subst hn hm
  exact ref19Tag_any A B c d s l w hr hs (by omega) hsc (by omega) hsb hlb
set_option maxHeartbeats 4000000 in
theorem barcodeTags_any (A B : Option Addr) (c d : Nat) (s l : List Int) (w : World) (hr : RdI w .u8 A s) (hs : RdI w .u8 B l) (hsc : s.length ≤ c) (hsb : ∀ x ∈ s, 0 ≤ x ∧ x < 256) (hlb : ∀ x ∈ l, 0 ≤ x ∧ x < 256) :
    Calls Try.prog 5 #[.slice A s.length c, .slice B l.length d] w fun e w' => e = .returned (.bool true) ∧ Below w.heap.size w w' := by
  obtain ⟨n, hn⟩ : ∃ n, s.length = n := ⟨_, rfl⟩
  obtain ⟨m, hm⟩ : ∃ m, l.length = m := ⟨_, rfl⟩
  rw [hn] at hsc ⊢
  rw [hm]
  have HN := Lib.hid hn
  have HM := Lib.hid hm
  have HR := Lib.hid hr
  have HS := Lib.hid hs
  have HSB := Lib.hid hsb
  have HLB := Lib.hid hlb
  clear hn hm hr hs hsb hlb
  by_cases h1 : 1000 < n
  · have d1 : (1000 : Int) < (n : Int) := by omega
    go_enter Try.func5, Try.ntmps5
    go_wp2
    go_ret
    exact ⟨rfl, Below.refl _ _⟩
  · have d1 : ¬ (1000 : Int) < (n : Int) := by omega
    by_cases h2 : 1000 < m
    · have d2 : (1000 : Int) < (m : Int) := by omega
      go_enter Try.func5, Try.ntmps5
      go_wp2
      go_ret
      exact ⟨rfl, Below.refl _ _⟩
    · have d2 : ¬ (1000 : Int) < (m : Int) := by omega
      obtain ⟨T, hT⟩ : ∃ T, tagN s (66 :: l) = T := ⟨_, rfl⟩
      have hq := fun w => eq32 T (by rw [← hT]; exact tagN_len _ _) (by rw [← hT]; exact tagN_byte _ _) w
      have T1 := fun W h1' h2' => bcTag_len A B c d n m s l W HN.out HM.out h1' h2' (by omega) (by omega) HSB.out HLB.out
      have T2 := fun W h1' h2' => ref19Tag_len A B c d n m s l W HN.out HM.out h1' h2' (by omega) hsc (by omega) HSB.out HLB.out
      rw [hT] at T1 T2
      clear hT
      go_enter Try.func5, Try.ntmps5
      go_wp2_with (first | (go_at_call 11; (with_reducible refine (coded19_any _).mono ?_); rintro e w4 ⟨rfl, hb4⟩; have HB4 := Lib.hid hb4; clear hb4) | (go_at_call 17; (with_reducible refine (T1 _ (HR.out.below HB4.out) (HS.out.below HB4.out)).mono ?_); rintro e w5 ⟨rfl, hb5⟩; have HB5 := Lib.hid (bT HB4.out hb5); clear hb5) | (go_at_call 18; (with_reducible refine (T2 _ (HR.out.below HB5.out) (HS.out.below HB5.out)).mono ?_); rintro e w6 ⟨rfl, hb6⟩; have HB6 := Lib.hid (bT HB5.out hb6); clear hb6))
      go_ret
      exact ⟨rfl, HB6.out⟩
end Go.Proofs.Ytachkhjbckapoaa

namespace Go.Proofs.Ytachkhjbckapoaa
open Go.RowKit
set_option linter.unusedVariables false
set_option maxRecDepth 100000

theorem row_caps {k : IntKind} {w : World} {a : Option Addr} {len cap : Nat} {zs : List Int} (h : IsRow k w a len cap zs) : len ≤ cap ∧ cap ≤ 9223372036854775807 := by
  rcases h with ⟨_, rfl, rfl, _⟩ | ⟨x, _, hl, hm, _, _, _⟩
  · exact ⟨Nat.le_refl _, by omega⟩
  · unfold maxLen at hm; exact ⟨hl, by omega⟩
theorem leaf_row {H : Type} {enc : TypeId × Value → H} {P : Program} {w : World} {base : Nat} {held : Bool} {t e : TypeId} {k : IntKind} {v : Value} (ht : P.underlying t = some (.slice e)) (he : P.underlying e = some (.int k)) (hc : P.cellsOf e = 1)
    (h : Leaf enc P w base (fun _ => true) held t v) : ∃ (a : Option Addr) (len cap : Nat) (zs : List Int), v = .slice a len cap ∧ IsRow k w a len cap zs := by
  obtain ⟨m, y, hf⟩ := h
  rcases Go.ChangeShapes.open_ints ht he hc hf with ⟨hcs, _⟩ | ⟨x, l, c, zs, hcs, _, hl, hm, hz, _, hcell, hwz⟩
  · have e : v = .slice none 0 0 := by simpa using hcs
    exact ⟨none, 0, 0, [], e, .inl ⟨rfl, rfl, rfl, rfl⟩⟩
  · have e : v = .slice (some x) l c := by simpa using hcs
    exact ⟨some x, l, c, zs, e, .inr ⟨_, rfl, hl, hm, by simpa using hz, hcell, hwz⟩⟩
end Go.Proofs.Ytachkhjbckapoaa

namespace Go.Proofs.Ytachkhjbckapoaa
open Go.RowKit
set_option linter.unusedVariables false
set_option maxRecDepth 100000

theorem ints_sized {H : Type} {enc : TypeId × Value → H} {P : Program} {w : World} {held : Bool} {t e : TypeId} {k : IntKind} {fuel : Nat} {a : Option Addr} {len cap : Nat} {d : DataW H} {p : List MemPlace} (ht : P.underlying t = some (.slice e)) (he : P.underlying e = some (.int k)) (hc : P.cellsOf e = 1) (hb : P.bytesOf e = 1)
    (hf : DataW.trod enc P w 0 (fun _ => true) held fuel t [.slice a len cap] = some (d, p)) {ts : List TypeId} {ds : List (DataW H)} (hsz : (DataW.weightsEach P ts ds).all (· ≤ reachBytes) = true) {j : Nat} (hj : ts[j]? = some t) (hd : ds[j]? = some d) :
    len ≤ 140737488351232 := by
  rcases Go.ChangeShapes.open_ints ht he hc hf with ⟨hcs, _⟩ | ⟨x, l, c, zs, hcs, _, hl, hm, hz, hx, hcell, hwz⟩
  · have e : (Value.slice a len cap) = .slice none 0 0 := by simpa using hcs
    injection e with _ e _
    omega
  · have e : (Value.slice a len cap) = .slice (some x) l c := by simpa using hcs
    injection e with _ e1 e2
    obtain rfl : d = .slice (Go.ChangeShapes.lits k (zs.take l)) (Go.ChangeShapes.lits k (zs.drop l)) := congrArg Prod.fst hx
    have h := sized_slice hsz hj hd ht
    rw [hb] at h
    have hz' : zs.length = c := by simpa using hz
    simp only [Go.ChangeShapes.lits, List.length_map, List.length_take, List.length_drop] at h
    have hr : reachBytes = 140737488351232 := rfl
    omega
end Go.Proofs.Ytachkhjbckapoaa

/- How long an argument may be that reads as a list, where what is read is of small bulk. Layer 21's law AcrossBack, walked: a stripe that is made a barcode, and a stripe again, is what it was, or that turned round. The law AcrossBack, as a row, where what it reads is of bulk at most 1048576: whatever the ring, the bytes, the version and the key, the call returns true, and its arguments read as before. No condition. -/
import Derived.Test.YtnbghgenaolfgaaGreatRows
import Derived.Test.YtnbghgenaolfgaaGreatZ00
import Derived.Test.YtnbghgenaolfgaaGreatZ29
import Derived.JoinedCond
namespace Go.Proofs.YtnbghgenaolfgaaGreat
open Go.RowKit
set_option linter.unusedVariables false
set_option maxRecDepth 100000
set_option linter.unusedSimpArgs false

theorem bulk_pos {H : Type} (d : DataW H) : 1 ≤ Rows.uptoBulk d := by
  cases d with
  | lit l => cases l <;> simp [Rows.uptoBulk]
  | _ => simp [Rows.uptoBulk]
theorem bulkAll_len {H : Type} : ∀ l : List (DataW H), l.length ≤ Rows.uptoBulkAll l
  | [] => by simp [Rows.uptoBulkAll]
  | d :: r => by
    have h := bulkAll_len r
    have h2 := bulk_pos d
    simp only [Rows.uptoBulkAll, List.length_cons]
    omega
theorem bulkAll_at {H : Type} : ∀ (l : List (DataW H)) (j : Nat) (d : DataW H), l[j]? = some d → Rows.uptoBulk d ≤ Rows.uptoBulkAll l
  | [], j, d, h => by simp at h
  | x :: r, 0, d, h => by
    obtain rfl : x = d := by simpa using h
    simp only [Rows.uptoBulkAll]
    omega
  | x :: r, j + 1, d, h => by
    have h2 := bulkAll_at r j d (by simpa using h)
    simp only [Rows.uptoBulkAll]
    omega
theorem ints_bulk {H : Type} {enc : TypeId × Value → H} {P : Program} {w : World} {held : Bool} {t e : TypeId} {k : IntKind} {fuel : Nat} {a : Option Addr} {len cap : Nat} {d : DataW H} {p : List MemPlace} (ht : P.underlying t = some (.slice e)) (he : P.underlying e = some (.int k)) (hc : P.cellsOf e = 1)
    (hf : DataW.trod enc P w 0 (fun _ => true) held fuel t [.slice a len cap] = some (d, p)) {ds : List (DataW H)} (hkk : Rows.uptoSmall H ds = true) {j : Nat} (hd : ds[j]? = some d) : len ≤ 1048576 := by
  have h1 : Rows.uptoBulkAll ds ≤ 1048576 := of_decide_eq_true hkk
  have h2 := bulkAll_at ds j d hd
  rcases Go.ChangeShapes.open_ints ht he hc hf with ⟨hcs, _⟩ | ⟨x, l, c, zs, hcs, _, hl, hm, hz, hx, hcell, hwz⟩
  · have e : (Value.slice a len cap) = .slice none 0 0 := by simpa using hcs
    injection e with _ e _
    omega
  · have e : (Value.slice a len cap) = .slice (some x) l c := by simpa using hcs
    injection e with _ e1 e2
    obtain rfl : d = .slice (Go.ChangeShapes.lits k (zs.take l)) (Go.ChangeShapes.lits k (zs.drop l)) := congrArg Prod.fst hx
    have h3 := bulkAll_len (H := H) (Go.ChangeShapes.lits k (zs.take l))
    have hz' : zs.length = c := by simpa using hz
    simp only [Rows.uptoBulk] at h2
    simp only [Go.ChangeShapes.lits, List.length_map, List.length_take] at h3
    simp only [Go.ChangeShapes.lits] at h2
    omega
end Go.Proofs.YtnbghgenaolfgaaGreat

namespace Go.Proofs.YtnbghgenaolfgaaGreat
open Go.RowKit
set_option linter.unusedVariables false
set_option maxRecDepth 100000
set_option linter.unusedSimpArgs false

theorem toB_parts {ks : List Ky} {b s : List Int} {l i v k : Int} (h : toB ks b v k = (s, l, i, 0)) : ∃ a0 a1 a2 a3 a4 a5 a6 a7 a8 a9 a10 a11 a12 a13 a14, decS ks b = ([a0, a1, a2, a3, a4, a5, a6, a7, a8, a9, a10, a11, a12, a13, a14], 0) ∧ encE ks [a0, a1, a2, a3, a4, a5, a6, a7, a8, a9, a10, k, 0, 0, v] = (s, 0) ∧ a12 = l ∧ a13 = i := by
  by_cases hz : (decS ks b).2 = 0
  · obtain ⟨a0, a1, a2, a3, a4, a5, a6, a7, a8, a9, a10, a11, a12, a13, a14, h15⟩ := len15x (decS_15x ks b)
    have hd : decS ks b = ([a0, a1, a2, a3, a4, a5, a6, a7, a8, a9, a10, a11, a12, a13, a14], 0) := Prod.ext h15 hz
    rw [toB_ok hd] at h
    refine ⟨a0, a1, a2, a3, a4, a5, a6, a7, a8, a9, a10, a11, a12, a13, a14, hd, ?_⟩
    split at h
    · rename_i hne
      exact absurd (congrArg (fun q => q.2.2.2) h) hne
    · rename_i hne
      have h1 := congrArg (fun q => q.1) h
      have h2 := congrArg (fun q => q.2.1) h
      have h3 := congrArg (fun q => q.2.2.1) h
      exact ⟨Prod.ext h1 (by simpa using hne), h2, h3⟩
  · rw [toB_bad hz] at h
    exact absurd (congrArg (fun q => q.2.2.2) h) hz
theorem across_back {ks : List Ky} {b s : List Int} {l i v k : Int} (h : toB ks b v k = (s, l, i, 0)) : ∃ a0 a1 a2 a3 a4 a5 a6 a7 a8 a9 a10 a11 a12 a13 a14, decS ks b = ([a0, a1, a2, a3, a4, a5, a6, a7, a8, a9, a10, a11, a12, a13, a14], 0) ∧ a12 = l ∧ a13 = i ∧ toS ks s a12 a13 a11 = (if (swipeRd b).2.1 then turnB b else b, 0) ∧ s.length ≤ 200000 ∧ (∀ x ∈ s, 0 ≤ x ∧ x < 256) ∧ a11 ≤ 99 ∧ a12 ≤ 9223372036854775807 ∧ a13 ≤ 9223372036854775807 := by
  obtain ⟨a0, a1, a2, a3, a4, a5, a6, a7, a8, a9, a10, a11, a12, a13, a14, h1, h2, h3, h4⟩ := toB_parts h
  obtain ⟨_, _, g3⟩ := st_one h1
  obtain ⟨x, q, _, p2, _, _⟩ := st_parts g3
  have hle := lay_le p2
  have hk : a11 ≤ 99 ∧ a14 = 0 := by
    unfold layR at p2
    split at p2
    · exact absurd (congrArg Prod.snd p2) (by simp)
    · rename_i hn
      simp only [List.getD_cons_zero, List.getD_cons_succ, not_or] at hn
      omega
  obtain ⟨hk1, rfl⟩ := hk
  obtain ⟨f1, _⟩ := enc_dec (l := [a0, a1, a2, a3, a4, a5, a6, a7, a8, a9, a10, k, 0, 0, v]) rfl h2
  obtain ⟨e1, e2⟩ := enc_smallx ks [a0, a1, a2, a3, a4, a5, a6, a7, a8, a9, a10, k, 0, 0, v] rfl
  rw [h2] at e1 e2
  refine ⟨a0, a1, a2, a3, a4, a5, a6, a7, a8, a9, a10, a11, a12, a13, 0, h1, h3, h4, ?_, e1, e2, hk1, hle _ (by simp), hle _ (by simp)⟩
  rw [toS_ok f1, g3]
  rfl
set_option maxHeartbeats 8000000 in
set_option maxRecDepth 100000 in
theorem acBack_no (A : Option Addr) (c : Nat) (ks : List Ky) (B : Option Addr) (cb n : Nat) (b s : List Int) (l i v k z : Int) (w : World) (hr : RdK w A ks) (hl : ks.length ≤ 9223372036854775807) (hs : RdI w .u8 B b)
    (b1 b2 b3 : Bool) (hbg : bigB ks = b1) (d2 : decide ((1000 : Int) < (n : Int)) = b2) (d3 : (z != 0) = b3) (hany : b1 = true ∨ b2 = true ∨ b3 = true)
    (hT : ∀ W, RdK W A ks → RdI W .u8 B b → Calls Tryz.prog 25 #[.slice A ks.length c, .slice B n cb, .int .i64 v, .int .i64 k] W (ToBRet (s, l, i, z) W)) :
    Calls Tryz.prog 9 #[.slice A ks.length c, .slice B n cb, .int .i64 v, .int .i64 k] w fun e w' => e = .returned (.bool true) ∧ Below w.heap.size w w' := by
  have K0 := hr
  have S0 := hs
  have B0 := bR w
  have hBg := fun W hW => big_any A c ks W hW hl
  have HA := Lib.hid hany
  clear hany
  cases b1 <;> cases b2 <;> cases b3 <;> first | exact absurd HA.out (by decide) | skip
  all_goals
    go_enter Tryz.func9, Tryz.ntmps9
    go_wp2_with (first | (go_at_call 25; (with_reducible refine (hT _ K0 S0).mono ?_); rintro e w1 ⟨v1, rfl, ho, hb1⟩; have hC := bA hb1 (.cells #[.int .i64 l, .int .i64 i] 26); have J1 : (w1.alloc (.cells #[.int .i64 l, .int .i64 i] 26)).heap[w1.heap.size]? = some (.cells #[.int .i64 l, .int .i64 i] 26 (0, 0)) := heap_alloc_new w1 _; have K1 := K0.below hC (Nat.le_refl _); have S1 := S0.below hC; have B1 := bT B0 hC; clear hb1 ho hC) | (go_at_call 12; (with_reducible refine (hBg _ K1).mono ?_); rintro e w3 ⟨he, rfl⟩; rw [hbg] at he; subst he) | (go_at_call 27; (with_reducible refine (crossed_any _).mono ?_); rintro e w6 ⟨rfl, hb6⟩; have B6 := bT B1 hb6))
    go_ret
    exact ⟨rfl, B6⟩
set_option maxHeartbeats 8000000 in
set_option maxRecDepth 100000 in
theorem acBack_one (A : Option Addr) (c : Nat) (ks : List Ky) (B : Option Addr) (cb n m : Nat) (b s x : List Int) (a0 a1 a2 a3 a4 a5 a6 a7 a8 a9 a10 a11 a12 a13 a14 v k : Int) (w : World) (hr : RdK w A ks) (hl : ks.length ≤ 9223372036854775807) (hs : RdI w .u8 B b) (HN : Hid (b.length = n)) (HS : Hid (s.length = m)) (HX : Hid (x.length = n)) (hn9 : n ≤ 9000)
    (hbg : bigB ks = false) (d2 : decide ((1000 : Int) < (n : Int)) = false)
    (hT : ∀ W, RdK W A ks → RdI W .u8 B b → Calls Tryz.prog 25 #[.slice A ks.length c, .slice B n cb, .int .i64 v, .int .i64 k] W (ToBRet (s, a12, a13, 0) W))
    (hD : ∀ W, RdK W A ks → RdI W .u8 B b → Calls Tryz.prog 17 #[.slice A ks.length c, .slice B n cb] W fun e w' => e = .returned (.tuple #[.agg #[.int .i64 a0, .int .i64 a1, .int .i64 a2, .int .i64 a3, .int .i64 a4, .int .i64 a5, .int .i64 a6, .int .i64 a7, .int .i64 a8, .int .i64 a9, .int .i64 a10, .int .i64 a11, .int .i64 a12, .int .i64 a13, .int .i64 a14], .int .i64 0]) ∧ Below W.heap.size W w')
    (hB : ∀ A' c' W, RdK W A ks → RdI W .u8 A' s → m ≤ c' → c' ≤ 9223372036854775807 → Calls Tryz.prog 28 #[.slice A ks.length c, .slice A' m c', .agg #[.int .i64 a12, .int .i64 a13], .int .i64 a11] W (ByteRetE (x, 0) W)) (hq : (b == x) = true) :
    Calls Tryz.prog 9 #[.slice A ks.length c, .slice B n cb, .int .i64 v, .int .i64 k] w fun e w' => e = .returned (.bool true) ∧ Below w.heap.size w w' := by
  have K0 := hr
  have S0 := hs
  have B0 := bR w
  have hBg := fun W hW => big_any A c ks W hW hl
  have hQ : ∀ A' B' c' d' W, RdI W .u8 A' b → RdI W .u8 B' x → Calls Tryz.prog 16 #[.slice A' n c', .slice B' n d'] W fun e w' => e = .returned (.bool true) ∧ Below W.heap.size W w' := by
    intro A' B' c' d' W h2 h3
    have h := same01_any A' B' c' d' b x W h2 h3 (by first | (rw [HN.out]; omega) | (rw [HX.out]; omega)) (by first | (rw [HN.out]; omega) | (rw [HX.out]; omega))
    simp only [HN.out, HX.out] at h
    refine h.mono ?_
    rintro e w' ⟨rfl, n, rfl⟩
    exact ⟨by rw [hq], bN (bR _) n⟩
  go_enter Tryz.func9, Tryz.ntmps9
  go_wp2_with (first | (go_at_call 25; (with_reducible refine (hT _ K0 S0).mono ?_); rintro e w1 ⟨v1, rfl, ho, hb1⟩; have hC := bA hb1 (.cells #[.int .i64 a12, .int .i64 a13] 26); have J1 : (w1.alloc (.cells #[.int .i64 a12, .int .i64 a13] 26)).heap[w1.heap.size]? = some (.cells #[.int .i64 a12, .int .i64 a13] 26 (0, 0)) := heap_alloc_new w1 _; have K1 := K0.below hC (Nat.le_refl _); have S1 := S0.below hC; have B1 := bT B0 hC; simp only [HS.out] at ho; obtain ⟨A1, c1, rfl, u1, u2⟩ := own_slice ho; have T1 := (rd_own_len HS.out ho).below (bel1 w1 (.cells #[.int .i64 a12, .int .i64 a13] 26)); clear hb1 ho hC) | (go_at_call 12; (with_reducible refine (hBg _ K1).mono ?_); rintro e w3 ⟨he, rfl⟩; rw [hbg] at he; subst he) | (go_at_call 17; (with_reducible refine (hD _ K1 S1).mono ?_); rintro e w4 ⟨rfl, hb4⟩; have hC := bA hb4 (.cells #[.int .i64 a0, .int .i64 a1, .int .i64 a2, .int .i64 a3, .int .i64 a4, .int .i64 a5, .int .i64 a6, .int .i64 a7, .int .i64 a8, .int .i64 a9, .int .i64 a10, .int .i64 a11, .int .i64 a12, .int .i64 a13, .int .i64 a14] 28); have K4 := K1.below hC (Nat.le_refl _); have S4 := S1.below hC; have T4 := T1.below hC; have J4 := (hC.block _ (Array.getElem?_eq_some_iff.1 J1).1).trans J1; have B4 := bT B1 hC; obtain ⟨j0, j1, _, _⟩ := ac_cells2 J4; clear hb4 hC) | (refine wpList_load_row rfl 26 (.tmp 10) rfl w1.heap.size rfl 26 #[.int .i64 a12, .int .i64 a13] (0, 0) _ J4 Tryz.underlying26 rfl ?_ ?_; (focus (exact infoJn))) | (go_at_call 28; (with_reducible refine (hB _ _ _ K4 T4 (by omega) (by unfold maxLen at u2; omega)).mono ?_); rintro e w5 ⟨v5, rfl, ho, hb5⟩; simp only [HX.out] at ho; obtain ⟨A5, c5, rfl, _, _⟩ := own_slice ho; have X5 := rd_own_len HX.out ho; have S5 := S4.below hb5; have B5 := bT B4 hb5; clear ho hb5) | (go_at_call 27; (with_reducible refine (crossed_any _).mono ?_); rintro e w6 ⟨rfl, hb6⟩; have S6 := S5.below hb6; have X6 := X5.below hb6; have B6 := bT B5 hb6; clear hb6) | (go_at_call 16; (with_reducible refine (hQ _ _ _ _ _ S6 X6).mono ?_); rintro e w7 ⟨rfl, hb7⟩; have B7 := bT B6 hb7))
  go_ret
  exact ⟨rfl, B7⟩
set_option maxHeartbeats 8000000 in
set_option maxRecDepth 100000 in
theorem acBack_two (A : Option Addr) (c : Nat) (ks : List Ky) (B : Option Addr) (cb n m : Nat) (b s x : List Int) (a0 a1 a2 a3 a4 a5 a6 a7 a8 a9 a10 a11 a12 a13 a14 v k : Int) (w : World) (hr : RdK w A ks) (hl : ks.length ≤ 9223372036854775807) (hs : RdI w .u8 B b) (HN : Hid (b.length = n)) (HS : Hid (s.length = m)) (HX : Hid (x.length = n)) (hn9 : n ≤ 9000)
    (hbg : bigB ks = false) (d2 : decide ((1000 : Int) < (n : Int)) = false)
    (hT : ∀ W, RdK W A ks → RdI W .u8 B b → Calls Tryz.prog 25 #[.slice A ks.length c, .slice B n cb, .int .i64 v, .int .i64 k] W (ToBRet (s, a12, a13, 0) W))
    (hD : ∀ W, RdK W A ks → RdI W .u8 B b → Calls Tryz.prog 17 #[.slice A ks.length c, .slice B n cb] W fun e w' => e = .returned (.tuple #[.agg #[.int .i64 a0, .int .i64 a1, .int .i64 a2, .int .i64 a3, .int .i64 a4, .int .i64 a5, .int .i64 a6, .int .i64 a7, .int .i64 a8, .int .i64 a9, .int .i64 a10, .int .i64 a11, .int .i64 a12, .int .i64 a13, .int .i64 a14], .int .i64 0]) ∧ Below W.heap.size W w')
    (hB : ∀ A' c' W, RdK W A ks → RdI W .u8 A' s → m ≤ c' → c' ≤ 9223372036854775807 → Calls Tryz.prog 28 #[.slice A ks.length c, .slice A' m c', .agg #[.int .i64 a12, .int .i64 a13], .int .i64 a11] W (ByteRetE (x, 0) W)) (hq : (b == x) = false)
    (hTu : ∀ W, RdI W .u8 B b → Calls Tryz.prog 30 #[.slice B n cb] W fun e w' => (∃ g, e = .returned (.slice (some ⟨g, 0, none⟩) n n) ∧ w'.ownsRow W.heap.size 5 1 (.slice (some ⟨g, 0, none⟩) n n) n (bv x)) ∧ Below W.heap.size W w') :
    Calls Tryz.prog 9 #[.slice A ks.length c, .slice B n cb, .int .i64 v, .int .i64 k] w fun e w' => e = .returned (.bool true) ∧ Below w.heap.size w w' := by
  have K0 := hr
  have S0 := hs
  have B0 := bR w
  have hBg := fun W hW => big_any A c ks W hW hl
  have hQ : ∀ A' B' c' d' W, RdI W .u8 A' b → RdI W .u8 B' x → Calls Tryz.prog 16 #[.slice A' n c', .slice B' n d'] W fun e w' => e = .returned (.bool false) ∧ Below W.heap.size W w' := by
    intro A' B' c' d' W h2 h3
    have h := same01_any A' B' c' d' b x W h2 h3 (by first | (rw [HN.out]; omega) | (rw [HX.out]; omega)) (by first | (rw [HN.out]; omega) | (rw [HX.out]; omega))
    simp only [HN.out, HX.out] at h
    refine h.mono ?_
    rintro e w' ⟨rfl, n, rfl⟩
    exact ⟨by rw [hq], bN (bR _) n⟩
  have hQ2 : ∀ A' B' c' d' W, RdI W .u8 A' x → RdI W .u8 B' x → Calls Tryz.prog 16 #[.slice A' n c', .slice B' n d'] W fun e w' => e = .returned (.bool true) ∧ Below W.heap.size W w' := by
    intro A' B' c' d' W h2 h3
    have h := same01_any A' B' c' d' x x W h2 h3 (by first | (rw [HN.out]; omega) | (rw [HX.out]; omega)) (by first | (rw [HN.out]; omega) | (rw [HX.out]; omega))
    simp only [HN.out, HX.out] at h
    refine h.mono ?_
    rintro e w' ⟨rfl, n, rfl⟩
    exact ⟨by simp, bN (bR _) n⟩
  go_enter Tryz.func9, Tryz.ntmps9
  go_wp2_with (first | (go_at_call 25; (with_reducible refine (hT _ K0 S0).mono ?_); rintro e w1 ⟨v1, rfl, ho, hb1⟩; have hC := bA hb1 (.cells #[.int .i64 a12, .int .i64 a13] 26); have J1 : (w1.alloc (.cells #[.int .i64 a12, .int .i64 a13] 26)).heap[w1.heap.size]? = some (.cells #[.int .i64 a12, .int .i64 a13] 26 (0, 0)) := heap_alloc_new w1 _; have K1 := K0.below hC (Nat.le_refl _); have S1 := S0.below hC; have B1 := bT B0 hC; simp only [HS.out] at ho; obtain ⟨A1, c1, rfl, u1, u2⟩ := own_slice ho; have T1 := (rd_own_len HS.out ho).below (bel1 w1 (.cells #[.int .i64 a12, .int .i64 a13] 26)); clear hb1 ho hC) | (go_at_call 12; (with_reducible refine (hBg _ K1).mono ?_); rintro e w3 ⟨he, rfl⟩; rw [hbg] at he; subst he) | (go_at_call 17; (with_reducible refine (hD _ K1 S1).mono ?_); rintro e w4 ⟨rfl, hb4⟩; have hC := bA hb4 (.cells #[.int .i64 a0, .int .i64 a1, .int .i64 a2, .int .i64 a3, .int .i64 a4, .int .i64 a5, .int .i64 a6, .int .i64 a7, .int .i64 a8, .int .i64 a9, .int .i64 a10, .int .i64 a11, .int .i64 a12, .int .i64 a13, .int .i64 a14] 28); have K4 := K1.below hC (Nat.le_refl _); have S4 := S1.below hC; have T4 := T1.below hC; have J4 := (hC.block _ (Array.getElem?_eq_some_iff.1 J1).1).trans J1; have B4 := bT B1 hC; obtain ⟨j0, j1, _, _⟩ := ac_cells2 J4; clear hb4 hC) | (refine wpList_load_row rfl 26 (.tmp 10) rfl w1.heap.size rfl 26 #[.int .i64 a12, .int .i64 a13] (0, 0) _ J4 Tryz.underlying26 rfl ?_ ?_; (focus (exact infoJn))) | (go_at_call 28; (with_reducible refine (hB _ _ _ K4 T4 (by omega) (by unfold maxLen at u2; omega)).mono ?_); rintro e w5 ⟨v5, rfl, ho, hb5⟩; simp only [HX.out] at ho; obtain ⟨A5, c5, rfl, _, _⟩ := own_slice ho; have X5 := rd_own_len HX.out ho; have S5 := S4.below hb5; have B5 := bT B4 hb5; clear ho hb5) | (go_at_call 27; (with_reducible refine (crossed_any _).mono ?_); rintro e w6 ⟨rfl, hb6⟩; have S6 := S5.below hb6; have X6 := X5.below hb6; have B6 := bT B5 hb6; clear hb6) | (go_at_call 30; (with_reducible refine (hTu _ S7).mono ?_); rintro e w8 ⟨⟨g8, rfl, ho8⟩, hb8⟩; have U8 := rd_own_len HX.out ho8; have X8 := X7.below hb8; have B8 := bT B7 hb8; clear ho8 hb8) | (go_at_call 16; (with_reducible refine (hQ2 _ _ _ _ _ X8 U8).mono ?_); rintro e w9 ⟨rfl, hb9⟩; have B9 := bT B8 hb9) | (go_at_call 16; (with_reducible refine (hQ _ _ _ _ _ S6 X6).mono ?_); rintro e w7 ⟨rfl, hb7⟩; have B7 := bT B6 hb7; have S7 := S6.below hb7; have X7 := X6.below hb7))
  go_ret
  exact ⟨rfl, B9⟩
theorem acBack_any (A : Option Addr) (c : Nat) (ks : List Ky) (B : Option Addr) (cb : Nat) (b : List Int) (v k : Int) (w : World) (hr : RdK w A ks) (hl : ks.length ≤ 9223372036854775807) (hs : RdI w .u8 B b) (hsb : ∀ x ∈ b, 0 ≤ x ∧ x < 256) (hsl : b.length ≤ 1048576) :
    Calls Tryz.prog 9 #[.slice A ks.length c, .slice B b.length cb, .int .i64 v, .int .i64 k] w fun e w' => e = .returned (.bool true) ∧ Below w.heap.size w w' := by
  have hT := fun W h1 h2 => toBarcode_any A c ks B cb b v k W h1 hl h2 (by omega) hsb
  have hf := fun s l i => across_back (ks := ks) (b := b) (s := s) (l := l) (i := i) (v := v) (k := k)
  generalize toB ks b v k = r at *
  obtain ⟨s, l, i, z⟩ := r
  by_cases hany : bigB ks = true ∨ decide ((1000 : Int) < (b.length : Int)) = true ∨ (z != 0) = true
  · exact acBack_no A c ks B cb b.length b s l i v k z w hr hl hs _ _ _ rfl rfl rfl hany hT
  · have h1 : bigB ks = false := by cases h : bigB ks <;> simp_all
    have h2 : decide ((1000 : Int) < (b.length : Int)) = false := by cases h : decide ((1000 : Int) < (b.length : Int)) <;> simp_all
    have h3 : z = 0 := by
      by_cases h : z = 0
      · exact h
      · exact absurd (.inr (.inr (by simpa using h))) hany
    subst h3
    have hn : b.length ≤ 1000 := by have := of_decide_eq_false h2; omega
    obtain ⟨a0, a1, a2, a3, a4, a5, a6, a7, a8, a9, a10, a11, a12, a13, a14, f1, rfl, rfl, f4, f5, f6, f7, f8, f9⟩ := hf s l i rfl
    have hD : ∀ W, RdK W A ks → RdI W .u8 B b → Calls Tryz.prog 17 #[.slice A ks.length c, .slice B b.length cb] W fun e w' => e = .returned (.tuple #[.agg #[.int .i64 a0, .int .i64 a1, .int .i64 a2, .int .i64 a3, .int .i64 a4, .int .i64 a5, .int .i64 a6, .int .i64 a7, .int .i64 a8, .int .i64 a9, .int .i64 a10, .int .i64 a11, .int .i64 a12, .int .i64 a13, .int .i64 a14], .int .i64 0]) ∧ Below W.heap.size W w' := by
      intro W g1 g2
      have h := stDecode_any A c ks B cb b W g1 hl g2 (by omega) hsb
      rw [f1] at h
      exact h
    have hB : ∀ A' c' W, RdK W A ks → RdI W .u8 A' s → s.length ≤ c' → c' ≤ 9223372036854775807 → Calls Tryz.prog 28 #[.slice A ks.length c, .slice A' s.length c', .agg #[.int .i64 a12, .int .i64 a13], .int .i64 a11] W (ByteRetE (if (swipeRd b).2.1 then turnB b else b, 0) W) := by
      intro A' c' W g1 g2 g3 g4
      have h := toStripe_any A c ks A' c' s a12 a13 a11 W g1 hl g2 g3 g4 f6 (by omega) (by omega) f8 f9
      rw [f4] at h
      exact h
    have hTu := fun W h => turn_any B cb b W h (by omega) hsb
    have tl := turn_len b
    have hself : (b == b) = true := by simp
    cases hbk : (swipeRd b).2.1 with
    | false =>
      rw [hbk] at hB
      exact acBack_one A c ks B cb b.length s.length b s b a0 a1 a2 a3 a4 a5 a6 a7 a8 a9 a10 a11 a12 a13 a14 v k w hr hl hs (Lib.hid rfl) (Lib.hid rfl) (Lib.hid rfl) (by omega) h1 h2 hT hD hB hself
    | true =>
      rw [hbk] at hB
      cases hq : (b == turnB b) with
      | true => exact acBack_one A c ks B cb b.length s.length b s (turnB b) a0 a1 a2 a3 a4 a5 a6 a7 a8 a9 a10 a11 a12 a13 a14 v k w hr hl hs (Lib.hid rfl) (Lib.hid rfl) (Lib.hid tl) (by omega) h1 h2 hT hD hB hq
      | false => exact acBack_two A c ks B cb b.length s.length b s (turnB b) a0 a1 a2 a3 a4 a5 a6 a7 a8 a9 a10 a11 a12 a13 a14 v k w hr hl hs (Lib.hid rfl) (Lib.hid rfl) (Lib.hid tl) (by omega) h1 h2 hT hD hB hq hTu
end Go.Proofs.YtnbghgenaolfgaaGreat

namespace Go.Proofs.YtnbghgenaolfgaaGreat.acrossBack
open Go.ChangeShapes Go.WideShapes Go.ChangeAt Go.RowKit
open Go.ChangeMaps (open_string shut_string)
set_option linter.unusedVariables false
set_option maxRecDepth 100000
theorem own : ownKnob Tryz.prog.godebug = none := by kernel_rfl
theorem laidOut : laidOutB Tryz.prog = true := by kernel_rfl
set_option maxRecDepth 100000 in
theorem lifted (os : Os) (started : os.Started) (H : Type) (enc : TypeId × Value → H) (F : Stop.Interp) :
    ReturnsInHanded {} Tryz.checked os 9 .any ((Rows.OpenSpec.upto Rows.acrossBackSpec).pre6 enc Tryz.prog Tryz.f9 Rows.acrossBackUptoRow.domain false) (((Rows.OpenSpec.upto Rows.acrossBackSpec).at F).post enc Tryz.prog Tryz.f9 false true false false) := by
  refine returnsInHanded_of_cond (C := Tryz.checked) (k := Rows.uptoSmall) rfl own started (by kernel_rfl) Tryz.func9
    (OpenSpec.witness (enc := enc) (C := Tryz.checked) (k := Rows.uptoSmall) rfl false ⟨#[], #[.slice none 0 0, .slice none 0 0, .int .i64 0, .int .i64 0], []⟩ 8 (by kernel_rfl) (by kernel_rfl) (by kernel_rfl) (x := (DataW.whole enc Tryz.prog (World.plainHolding Tryz.prog os ⟨#[], #[.slice none 0 0, .slice none 0 0, .int .i64 0, .int .i64 0], []⟩).memory Tryz.f9.params.toList [] false [.slice none 0 0, .slice none 0 0, .int .i64 0, .int .i64 0] 8).getD ([], [], [])) (by kernel_rfl) (by kernel_rfl) (by kernel_rfl)) ?_
  intro W base args ds gs before hval0 hW hcnd hkk _
  have hval : ∀ (j : Nat) t v, Tryz.f9.params[j]? = some t → args[j]? = some v → Value.okWide Tryz.prog W .any base t v := hval0
  have hW' := hW
  obtain ⟨p, q, hA0, hV, rfl, hfz, hnd⟩ := hW
  have hA : DataW.TrodAll enc Tryz.prog W 0 (fun _ => true) true Tryz.f9.params.toList args.toList ds p := hA0
  rw [Tryz.params9] at hA hval
  obtain ⟨v0, vs0, d0, ds0, p0, q0, hargs, rfl, rfl, h0, r0⟩ := trodAll_cons hA
  obtain ⟨v1, vs1, d1, ds1, p1, q1, rfl, rfl, rfl, h1, r1⟩ := trodAll_cons r0
  obtain ⟨v2, vs2, d2, ds2, p2, q2, rfl, rfl, rfl, h2, r2⟩ := trodAll_cons r1
  obtain ⟨v3, vs3, d3, ds3, p3, q3, rfl, rfl, rfl, h3, r3⟩ := trodAll_cons r2
  obtain ⟨rfl, rfl, rfl⟩ := trodAll_nil r3
  obtain rfl : args = #[v0, v1, v2, v3] := by cases args; simp_all
  obtain ⟨rfl, rfl⟩ := trodVars_none hV
  obtain ⟨A0, len0, cap0, rfl⟩ := okWide_slice Tryz.underlying22 (hval 0 22 v0 rfl rfl)
  have k0 := h0
  have lt0 : ∀ x ∈ p0, x.block < W.heap.size := by obtain ⟨m, hm⟩ := k0; exact DataW.trod_lt m _ _ _ hm
  obtain ⟨ks0, rfl, hr0, hl0⟩ : ∃ ks : List Ky, len0 = ks.length ∧ RdK W A0 ks ∧ ks.length ≤ 9223372036854775807 := by
    obtain ⟨fuel, hf⟩ := h0
    exact keys_open hf
  obtain ⟨a1, len1, cap1, rfl⟩ := okWide_slice Tryz.underlying30 (hval 1 30 v1 rfl rfl)
  have k1 := h1
  have lt1 : ∀ x ∈ p1, x.block < W.heap.size := by obtain ⟨m, hm⟩ := k1; exact DataW.trod_lt m _ _ _ hm
  obtain ⟨z1, w1⟩ : ∃ zs, IsRow .u8 W a1 len1 cap1 zs := by
    obtain ⟨fuel, hf⟩ := h1
    rcases open_ints Tryz.underlying30 Tryz.underlying5 (by kernel_rfl) hf with ⟨hcs, _⟩ | ⟨x, l, c, zs, hcs, _, hl, hm, hz, _, hcell, hwz⟩
    · simp [Value.cells] at hcs
      obtain ⟨rfl, rfl, rfl⟩ := hcs
      exact ⟨[], .inl ⟨rfl, rfl, rfl, rfl⟩⟩
    · simp [Value.cells] at hcs
      obtain ⟨rfl, rfl, rfl⟩ := hcs
      exact ⟨zs, .inr ⟨_, rfl, hl, hm, by simpa using hz, hcell, hwz⟩⟩
  have hs1 : len1 ≤ 1048576 := by
    obtain ⟨fuel, hf⟩ := k1
    exact ints_bulk Tryz.underlying30 Tryz.underlying5 (by kernel_rfl) hf hkk (j := 1) rfl
  obtain ⟨hq1, hm1⟩ := row_caps w1
  obtain ⟨b1, rfl, hr1, hl1, hw1⟩ := rd_of_row w1
  obtain ⟨a2, rfl, rfl, rfl, w2⟩ := open_int Tryz.underlying3 (hval 2 3 v2 rfl rfl) h2
  obtain ⟨a3, rfl, rfl, rfl, w3⟩ := open_int Tryz.underlying3 (hval 3 3 v3 rfl rfl) h3
  clear hA0 hval0
  refine (acBack_any A0 cap0 ks0 a1 cap1 b1 a2 a3 W hr0 hl0 hr1 (wfu8 hw1) hs1).mono fun e W' ⟨he, bel⟩ => ?_
  subst he
  exact ⟨_, rfl, _, _, _, [], _, [], hW', trodAll_mk1 (shut_bool Tryz.underlying4 _), (trodAll_cons_mk (Below.trod laidOut (by kernel_rfl) (of_decide_eq_true (by kernel_rfl)) k0 bel lt0) (trodAll_cons_mk (Below.trod laidOut (by kernel_rfl) (of_decide_eq_true (by kernel_rfl)) k1 bel lt1) (trodAll_cons_mk (shut_int Tryz.underlying3 w2) (trodAll_cons_mk (shut_int Tryz.underlying3 w3) trodAll_mk0)))), rfl, bel.frame _, fun h => by cases h⟩
theorem over : Rows.acrossBackUptoRow.holds Tryz.pinned (Rows.OpenSpec.upto Rows.acrossBackSpec) :=
  OpenClaim.holds_of_cond 9 Tryz.f9 rfl rfl rfl rfl rfl rfl rfl ⟨rfl, rfl, rfl, rfl, rfl⟩ rfl rfl rfl rfl rfl (by kernel_rfl) Tryz.func9 (by kernel_rfl)
    (of_decide_eq_true (by kernel_rfl)) (by unfold Func.isWrapper; first | (rw [if_pos (by decide +kernel)]; kernel_rfl) | (rw [if_neg (by decide +kernel)]; exact ⟨rfl, rfl⟩))
    (fun os started H enc _ F => lifted os started H enc F)
theorem proved : Rows.AcrossBackUptoSaid := over
#print axioms proved
end Go.Proofs.YtnbghgenaolfgaaGreat.acrossBack
namespace Go.Proofs.YtnbghgenaolfgaaGreat
theorem acrossBackUpto_holds : Rows.AcrossBackUptoSaid := acrossBack.proved
end Go.Proofs.YtnbghgenaolfgaaGreat


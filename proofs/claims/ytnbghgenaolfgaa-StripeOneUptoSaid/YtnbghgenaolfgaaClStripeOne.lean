/- How long an argument may be that reads as a list, where what is read is of small bulk. Layer 15's law StripeBack, walked: what was encoded is decoded again, also if it is turned round. Layer 15's law StripeOne, walked: what is decoded is encoded as the very same bytes, or as these turned round. The law StripeOne, as a row, where what it reads is of bulk at most 1048576: whatever the ring and the bytes, the call returns true, and its arguments read as before. No condition. -/
import Derived.Test.YtnbghgenaolfgaaRows
import Derived.Test.YtnbghgenaolfgaaS00
import Derived.Test.YtnbghgenaolfgaaS45
import Derived.Test.YtnbghgenaolfgaaS46
import Derived.Test.YtnbghgenaolfgaaS01
import Derived.JoinedCond
namespace Go.Proofs.Ytnbghgenaolfgaa
open Go.RowKit
set_option linter.unusedVariables false
set_option maxRecDepth 100000
set_option linter.unusedSimpArgs false

theorem bulk_pos {H : Type} (d : DataW H) : 1 ≤ Rows.uptoBulk d := by
  cases d with
  | lit l => cases l <;> simp [Rows.uptoBulk]
  | _ => simp [Rows.uptoBulk]
theorem bulkAll_len {H : Type} : ∀ l : List (DataW H), l.length ≤ Rows.uptoBulkAll l
  | [] => by simp [Rows.uptoBulkAll]
  | d :: r => by
    have h := bulkAll_len r
    have h2 := bulk_pos d
    simp only [Rows.uptoBulkAll, List.length_cons]
    omega
theorem bulkAll_at {H : Type} : ∀ (l : List (DataW H)) (j : Nat) (d : DataW H), l[j]? = some d → Rows.uptoBulk d ≤ Rows.uptoBulkAll l
  | [], j, d, h => by simp at h
  | x :: r, 0, d, h => by
    obtain rfl : x = d := by simpa using h
    simp only [Rows.uptoBulkAll]
    omega
  | x :: r, j + 1, d, h => by
    have h2 := bulkAll_at r j d (by simpa using h)
    simp only [Rows.uptoBulkAll]
    omega
theorem ints_bulk {H : Type} {enc : TypeId × Value → H} {P : Program} {w : World} {held : Bool} {t e : TypeId} {k : IntKind} {fuel : Nat} {a : Option Addr} {len cap : Nat} {d : DataW H} {p : List MemPlace} (ht : P.underlying t = some (.slice e)) (he : P.underlying e = some (.int k)) (hc : P.cellsOf e = 1)
    (hf : DataW.trod enc P w 0 (fun _ => true) held fuel t [.slice a len cap] = some (d, p)) {ds : List (DataW H)} (hkk : Rows.uptoSmall H ds = true) {j : Nat} (hd : ds[j]? = some d) : len ≤ 1048576 := by
  have h1 : Rows.uptoBulkAll ds ≤ 1048576 := of_decide_eq_true hkk
  have h2 := bulkAll_at ds j d hd
  rcases Go.ChangeShapes.open_ints ht he hc hf with ⟨hcs, _⟩ | ⟨x, l, c, zs, hcs, _, hl, hm, hz, hx, hcell, hwz⟩
  · have e : (Value.slice a len cap) = .slice none 0 0 := by simpa using hcs
    injection e with _ e _
    omega
  · have e : (Value.slice a len cap) = .slice (some x) l c := by simpa using hcs
    injection e with _ e1 e2
    obtain rfl : d = .slice (Go.ChangeShapes.lits k (zs.take l)) (Go.ChangeShapes.lits k (zs.drop l)) := congrArg Prod.fst hx
    have h3 := bulkAll_len (H := H) (Go.ChangeShapes.lits k (zs.take l))
    have hz' : zs.length = c := by simpa using hz
    simp only [Rows.uptoBulk] at h2
    simp only [Go.ChangeShapes.lits, List.length_map, List.length_take] at h3
    simp only [Go.ChangeShapes.lits] at h2
    omega
end Go.Proofs.Ytnbghgenaolfgaa

namespace Go.Proofs.Ytnbghgenaolfgaa
open Go.RowKit
set_option linter.unusedVariables false
set_option maxRecDepth 100000
set_option linter.unusedSimpArgs false

theorem decT_15 (ks : List Ky) (x t : List Int) : (decT ks x t).1.length = 15 := by
  have hg : (layG x).1.length = 15 := by
    obtain ⟨c0, c1, c2, c3, c4, c5, c6, c7, c8, c9, c10, c11, c12, c13, c14, hc⟩ := layG_15 x
    rw [hc]; rfl
  unfold decT
  split
  · rfl
  · split
    · rfl
    · split
      · exact hg
      · rfl
theorem decS_15 (ks : List Ky) (s : List Int) : (decS ks s).1.length = 15 := by
  unfold decS
  split
  · rfl
  · split
    · rfl
    · split
      · rfl
      · exact decT_15 _ _ _
theorem encS_fail {ks : List Ky} {l : List Int} (h : (encS ks l).2 ≠ 0) : (encS ks l).1 = [] := by
  unfold encS at h ⊢
  split
  · rfl
  · rename_i h1
    rw [if_neg h1] at h
    split
    · rfl
    · rename_i h2
      rw [if_neg h2] at h
      split
      · rfl
      · rename_i k z hf
        rw [hf] at h
        exact trackPut_fail h
set_option maxHeartbeats 8000000 in
set_option maxRecDepth 100000 in
theorem stBack_big (A : Option Addr) (c : Nat) (ks : List Ky) (a0 a1 a2 a3 a4 a5 a6 a7 a8 a9 a10 a11 a12 a13 a14 : Int) (w : World) (hr : RdK w A ks) (hl : ks.length ≤ 9223372036854775807) (b : List Int) (z : Int) (hbg : bigB ks = true) (hE : ∀ W, RdK W A ks → Calls Try.prog 13 #[.slice A ks.length c, .agg #[.int .i64 a0, .int .i64 a1, .int .i64 a2, .int .i64 a3, .int .i64 a4, .int .i64 a5, .int .i64 a6, .int .i64 a7, .int .i64 a8, .int .i64 a9, .int .i64 a10, .int .i64 a11, .int .i64 a12, .int .i64 a13, .int .i64 a14]] W (ByteRetE (b, z) W)) :
    Calls Try.prog 8 #[.slice A ks.length c, .agg #[.int .i64 a0, .int .i64 a1, .int .i64 a2, .int .i64 a3, .int .i64 a4, .int .i64 a5, .int .i64 a6, .int .i64 a7, .int .i64 a8, .int .i64 a9, .int .i64 a10, .int .i64 a11, .int .i64 a12, .int .i64 a13, .int .i64 a14]] w fun e w' => e = .returned (.bool true) ∧ Below w.heap.size w w' := by
  have hB := fun W hW => big_any A c ks W hW hl
  have hr1 := hr.below (bel1 w (.cells #[.int .i64 a0, .int .i64 a1, .int .i64 a2, .int .i64 a3, .int .i64 a4, .int .i64 a5, .int .i64 a6, .int .i64 a7, .int .i64 a8, .int .i64 a9, .int .i64 a10, .int .i64 a11, .int .i64 a12, .int .i64 a13, .int .i64 a14] 36)) (Nat.le_refl _)
  have P1 := heap_alloc_new w (.cells #[.int .i64 a0, .int .i64 a1, .int .i64 a2, .int .i64 a3, .int .i64 a4, .int .i64 a5, .int .i64 a6, .int .i64 a7, .int .i64 a8, .int .i64 a9, .int .i64 a10, .int .i64 a11, .int .i64 a12, .int .i64 a13, .int .i64 a14] 36)
  have B1 := bel1 w (.cells #[.int .i64 a0, .int .i64 a1, .int .i64 a2, .int .i64 a3, .int .i64 a4, .int .i64 a5, .int .i64 a6, .int .i64 a7, .int .i64 a8, .int .i64 a9, .int .i64 a10, .int .i64 a11, .int .i64 a12, .int .i64 a13, .int .i64 a14] 36)
  go_enter Try.func8, Try.ntmps8
  go_wp2_with (first | (go_at_call 13; (with_reducible refine (hE _ hr1).mono ?_); rintro e w2 ⟨v, rfl, _, hb2⟩; have hr2 := hr1.below hb2 (Nat.le_refl _); have B2 := bT B1 hb2; clear hb2) | (go_at_call 15; (with_reducible refine (hB _ hr2).mono ?_); rintro e w3 ⟨he, rfl⟩; rw [hbg] at he; subst he) | (go_at_call 26; (with_reducible refine (coded15_any _).mono ?_); rintro e w4 ⟨rfl, hb4⟩))
  go_ret
  exact ⟨rfl, bT B2 hb4⟩
set_option maxHeartbeats 8000000 in
set_option maxRecDepth 100000 in
theorem stBack_no (A : Option Addr) (c : Nat) (ks : List Ky) (a0 a1 a2 a3 a4 a5 a6 a7 a8 a9 a10 a11 a12 a13 a14 : Int) (w : World) (hr : RdK w A ks) (hl : ks.length ≤ 9223372036854775807) (b : List Int) (z : Int) (hbg : bigB ks = false) (hzb : (z != 0) = true) (hE : ∀ W, RdK W A ks → Calls Try.prog 13 #[.slice A ks.length c, .agg #[.int .i64 a0, .int .i64 a1, .int .i64 a2, .int .i64 a3, .int .i64 a4, .int .i64 a5, .int .i64 a6, .int .i64 a7, .int .i64 a8, .int .i64 a9, .int .i64 a10, .int .i64 a11, .int .i64 a12, .int .i64 a13, .int .i64 a14]] W (ByteRetE (b, z) W)) :
    Calls Try.prog 8 #[.slice A ks.length c, .agg #[.int .i64 a0, .int .i64 a1, .int .i64 a2, .int .i64 a3, .int .i64 a4, .int .i64 a5, .int .i64 a6, .int .i64 a7, .int .i64 a8, .int .i64 a9, .int .i64 a10, .int .i64 a11, .int .i64 a12, .int .i64 a13, .int .i64 a14]] w fun e w' => e = .returned (.bool true) ∧ Below w.heap.size w w' := by
  have hB := fun W hW => big_any A c ks W hW hl
  have hr1 := hr.below (bel1 w (.cells #[.int .i64 a0, .int .i64 a1, .int .i64 a2, .int .i64 a3, .int .i64 a4, .int .i64 a5, .int .i64 a6, .int .i64 a7, .int .i64 a8, .int .i64 a9, .int .i64 a10, .int .i64 a11, .int .i64 a12, .int .i64 a13, .int .i64 a14] 36)) (Nat.le_refl _)
  have P1 := heap_alloc_new w (.cells #[.int .i64 a0, .int .i64 a1, .int .i64 a2, .int .i64 a3, .int .i64 a4, .int .i64 a5, .int .i64 a6, .int .i64 a7, .int .i64 a8, .int .i64 a9, .int .i64 a10, .int .i64 a11, .int .i64 a12, .int .i64 a13, .int .i64 a14] 36)
  have B1 := bel1 w (.cells #[.int .i64 a0, .int .i64 a1, .int .i64 a2, .int .i64 a3, .int .i64 a4, .int .i64 a5, .int .i64 a6, .int .i64 a7, .int .i64 a8, .int .i64 a9, .int .i64 a10, .int .i64 a11, .int .i64 a12, .int .i64 a13, .int .i64 a14] 36)
  go_enter Try.func8, Try.ntmps8
  go_wp2_with (first | (go_at_call 13; (with_reducible refine (hE _ hr1).mono ?_); rintro e w2 ⟨v, rfl, _, hb2⟩; have hr2 := hr1.below hb2 (Nat.le_refl _); have B2 := bT B1 hb2; clear hb2) | (go_at_call 15; (with_reducible refine (hB _ hr2).mono ?_); rintro e w3 ⟨he, rfl⟩; rw [hbg] at he; subst he) | (go_at_call 26; (with_reducible refine (coded15_any _).mono ?_); rintro e w4 ⟨rfl, hb4⟩))
  go_ret
  exact ⟨rfl, bT B2 hb4⟩
set_option maxHeartbeats 8000000 in
set_option maxRecDepth 100000 in
theorem stBack_track (A : Option Addr) (c : Nat) (ks : List Ky) (a0 a1 a2 a3 a4 a5 a6 a7 a8 a9 a10 a11 a12 a13 a14 : Int) (w : World) (hr : RdK w A ks) (hl : ks.length ≤ 9223372036854775807) (b t Gl : List Int) (n : Nat) (hbg : bigB ks = false) (hE : ∀ W, RdK W A ks → Calls Try.prog 13 #[.slice A ks.length c, .agg #[.int .i64 a0, .int .i64 a1, .int .i64 a2, .int .i64 a3, .int .i64 a4, .int .i64 a5, .int .i64 a6, .int .i64 a7, .int .i64 a8, .int .i64 a9, .int .i64 a10, .int .i64 a11, .int .i64 a12, .int .i64 a13, .int .i64 a14]] W (ByteRetE (b, 0) W)) (hD1 : ∀ As cs W, RdK W A ks → RdI W .u8 As b → Calls Try.prog 29 #[.slice A ks.length c, .slice As n cs] W fun e w' => e = .returned (.tuple #[.agg #[.int .i64 a0, .int .i64 a1, .int .i64 a2, .int .i64 a3, .int .i64 a4, .int .i64 a5, .int .i64 a6, .int .i64 a7, .int .i64 a8, .int .i64 a9, .int .i64 a10, .int .i64 a11, .int .i64 a12, .int .i64 a13, .int .i64 a14], .int .i64 0]) ∧ Below W.heap.size W w') (hTu : ∀ A' c' W, RdI W .u8 A' b → Calls Try.prog 30 #[.slice A' n c'] W fun e w' => (∃ g, e = .returned (.slice (some ⟨g, 0, none⟩) n n) ∧ w'.ownsRow W.heap.size 5 1 (.slice (some ⟨g, 0, none⟩) n n) n (bv t)) ∧ Below W.heap.size W w') (HN : Hid (b.length = n)) (HT : Hid (t.length = n)) (hG : ∀ A' c' W, RdI W .u8 A' t → Calls Try.prog 31 #[.slice A' n c'] W (ByteRetE (Gl, 0) W)) (yl : List Int) (yz : Int) (hy : yl.length = 15) (hD2 : ∀ As cs W, RdK W A ks → RdI W .u8 As t → Calls Try.prog 29 #[.slice A ks.length c, .slice As n cs] W fun e w' => e = .returned (.tuple #[.agg (rdC yl), .int .i64 yz]) ∧ Below W.heap.size W w') :
    Calls Try.prog 8 #[.slice A ks.length c, .agg #[.int .i64 a0, .int .i64 a1, .int .i64 a2, .int .i64 a3, .int .i64 a4, .int .i64 a5, .int .i64 a6, .int .i64 a7, .int .i64 a8, .int .i64 a9, .int .i64 a10, .int .i64 a11, .int .i64 a12, .int .i64 a13, .int .i64 a14]] w fun e w' => e = .returned (.bool true) ∧ Below w.heap.size w w' := by
  have hB := fun W hW => big_any A c ks W hW hl
  have hr1 := hr.below (bel1 w (.cells #[.int .i64 a0, .int .i64 a1, .int .i64 a2, .int .i64 a3, .int .i64 a4, .int .i64 a5, .int .i64 a6, .int .i64 a7, .int .i64 a8, .int .i64 a9, .int .i64 a10, .int .i64 a11, .int .i64 a12, .int .i64 a13, .int .i64 a14] 36)) (Nat.le_refl _)
  have P1 := heap_alloc_new w (.cells #[.int .i64 a0, .int .i64 a1, .int .i64 a2, .int .i64 a3, .int .i64 a4, .int .i64 a5, .int .i64 a6, .int .i64 a7, .int .i64 a8, .int .i64 a9, .int .i64 a10, .int .i64 a11, .int .i64 a12, .int .i64 a13, .int .i64 a14] 36)
  have B1 := bel1 w (.cells #[.int .i64 a0, .int .i64 a1, .int .i64 a2, .int .i64 a3, .int .i64 a4, .int .i64 a5, .int .i64 a6, .int .i64 a7, .int .i64 a8, .int .i64 a9, .int .i64 a10, .int .i64 a11, .int .i64 a12, .int .i64 a13, .int .i64 a14] 36)
  go_enter Try.func8, Try.ntmps8
  go_wp2_with (first | (go_at_call 13; (with_reducible refine (hE _ hr1).mono ?_); rintro e w2 ⟨v, rfl, ho, hb2⟩; replace ho : w2.ownsRow (w.alloc (.cells #[.int .i64 a0, .int .i64 a1, .int .i64 a2, .int .i64 a3, .int .i64 a4, .int .i64 a5, .int .i64 a6, .int .i64 a7, .int .i64 a8, .int .i64 a9, .int .i64 a10, .int .i64 a11, .int .i64 a12, .int .i64 a13, .int .i64 a14] 36)).heap.size 5 1 v b.length (b.map (.int .u8)) := ho; rw [HN.out] at ho; obtain ⟨As, cs, rfl, _, _⟩ := own_slice ho; have S2 := rd_own_len HN.out ho; have K2 := hr1.below hb2 (Nat.le_refl _); have P2 := (hb2.block _ (Array.getElem?_eq_some_iff.1 P1).1).trans P1; have B2 := bT B1 hb2; clear hb2 ho) | (go_at_call 15; (with_reducible refine (hB _ K2).mono ?_); rintro e w3 ⟨he, rfl⟩; rw [hbg] at he; subst he) | (go_at_call 29; (with_reducible refine (hD1 As cs _ K2 S2).mono ?_); rintro e w3 ⟨rfl, hb3⟩; have hA3 := bA hb3 (.cells #[.int .i64 a0, .int .i64 a1, .int .i64 a2, .int .i64 a3, .int .i64 a4, .int .i64 a5, .int .i64 a6, .int .i64 a7, .int .i64 a8, .int .i64 a9, .int .i64 a10, .int .i64 a11, .int .i64 a12, .int .i64 a13, .int .i64 a14] 36); have X3 := heap_alloc_new w3 (.cells #[.int .i64 a0, .int .i64 a1, .int .i64 a2, .int .i64 a3, .int .i64 a4, .int .i64 a5, .int .i64 a6, .int .i64 a7, .int .i64 a8, .int .i64 a9, .int .i64 a10, .int .i64 a11, .int .i64 a12, .int .i64 a13, .int .i64 a14] 36); have K3 := K2.below hA3 (Nat.le_refl _); have S3 := S2.below hA3; have P3 := (hA3.block _ (Array.getElem?_eq_some_iff.1 P2).1).trans P2; have B3 := bT B2 hA3; clear hb3 hA3) | (go_at_call 30; (with_reducible refine (hTu _ _ _ S3).mono ?_); rintro e w4 ⟨⟨g4, rfl, ho4⟩, hb4⟩; have T4 := rd_own_len HT.out ho4; have K4 := K3.below hb4 (Nat.le_refl _); have S4 := S3.below hb4; have P4 := (hb4.block _ (Array.getElem?_eq_some_iff.1 P3).1).trans P3; have X4 := (hb4.block _ (Array.getElem?_eq_some_iff.1 X3).1).trans X3; have B4 := bT B3 hb4; have cx0 := cell_of_row _ w3.heap.size 0 _ _ _ X4; have cp0 := cell_of_row _ w.heap.size 0 _ _ _ P4; have cx1 := cell_of_row _ w3.heap.size 1 _ _ _ X4; have cp1 := cell_of_row _ w.heap.size 1 _ _ _ P4; have cx2 := cell_of_row _ w3.heap.size 2 _ _ _ X4; have cp2 := cell_of_row _ w.heap.size 2 _ _ _ P4; have cx3 := cell_of_row _ w3.heap.size 3 _ _ _ X4; have cp3 := cell_of_row _ w.heap.size 3 _ _ _ P4; have cx4 := cell_of_row _ w3.heap.size 4 _ _ _ X4; have cp4 := cell_of_row _ w.heap.size 4 _ _ _ P4; have cx5 := cell_of_row _ w3.heap.size 5 _ _ _ X4; have cp5 := cell_of_row _ w.heap.size 5 _ _ _ P4; have cx6 := cell_of_row _ w3.heap.size 6 _ _ _ X4; have cp6 := cell_of_row _ w.heap.size 6 _ _ _ P4; have cx7 := cell_of_row _ w3.heap.size 7 _ _ _ X4; have cp7 := cell_of_row _ w.heap.size 7 _ _ _ P4; have cx8 := cell_of_row _ w3.heap.size 8 _ _ _ X4; have cp8 := cell_of_row _ w.heap.size 8 _ _ _ P4; have cx9 := cell_of_row _ w3.heap.size 9 _ _ _ X4; have cp9 := cell_of_row _ w.heap.size 9 _ _ _ P4; have cx10 := cell_of_row _ w3.heap.size 10 _ _ _ X4; have cp10 := cell_of_row _ w.heap.size 10 _ _ _ P4; have cx11 := cell_of_row _ w3.heap.size 11 _ _ _ X4; have cp11 := cell_of_row _ w.heap.size 11 _ _ _ P4; have cx12 := cell_of_row _ w3.heap.size 12 _ _ _ X4; have cp12 := cell_of_row _ w.heap.size 12 _ _ _ P4; have cx13 := cell_of_row _ w3.heap.size 13 _ _ _ X4; have cp13 := cell_of_row _ w.heap.size 13 _ _ _ P4; have cx14 := cell_of_row _ w3.heap.size 14 _ _ _ X4; have cp14 := cell_of_row _ w.heap.size 14 _ _ _ P4; clear ho4 hb4) | (go_at_call 31; (with_reducible refine (hG _ _ _ T4).mono ?_); rintro e w5 ⟨v5, rfl, _, hb5⟩; have T5 := T4.below hb5; have K5 := K4.below hb5 (Nat.le_refl _); have S5 := S4.below hb5; have P5 := (hb5.block _ (Array.getElem?_eq_some_iff.1 P4).1).trans P4; have B5 := bT B4 hb5; clear hb5) | (go_at_call 29; (with_reducible refine (hD2 _ _ _ K5 T5).mono ?_); rintro e w6 ⟨rfl, hb6⟩; have hA6 := bA hb6 (.cells #[.int .i64 0, .int .i64 0, .int .i64 0, .int .i64 0, .int .i64 0, .int .i64 0, .int .i64 0, .int .i64 0, .int .i64 0, .int .i64 0, .int .i64 0, .int .i64 0, .int .i64 0, .int .i64 0, .int .i64 0] 36); have Y6 := heap_alloc_new w6 (.cells #[.int .i64 0, .int .i64 0, .int .i64 0, .int .i64 0, .int .i64 0, .int .i64 0, .int .i64 0, .int .i64 0, .int .i64 0, .int .i64 0, .int .i64 0, .int .i64 0, .int .i64 0, .int .i64 0, .int .i64 0] 36); have B6 := bT B5 hA6; have hz6 := (bT B5 hb6).size; have B8 : Below w.heap.size w ((w6.alloc (.cells #[.int .i64 0, .int .i64 0, .int .i64 0, .int .i64 0, .int .i64 0, .int .i64 0, .int .i64 0, .int .i64 0, .int .i64 0, .int .i64 0, .int .i64 0, .int .i64 0, .int .i64 0, .int .i64 0, .int .i64 0] 36)).setRow w6.heap.size (rdC yl)) := setRow_below B6 hz6; clear hb6 hA6) | (refine wpList_store_row rfl 36 _ _ rfl w6.heap.size (rdC yl) rfl rfl 36 _ Y6 ?_ ?_ (rdC_one _) ?_; (focus (rw [rdC_size hy]; exact infoR)); (focus (rw [rdC_size hy]; rfl))) | (go_at_call 26; (with_reducible refine (coded15_any _).mono ?_); rintro e w9 ⟨rfl, hb9⟩))
  go_ret
  exact ⟨rfl, bT B8 hb9⟩
set_option maxHeartbeats 8000000 in
set_option maxRecDepth 100000 in
theorem stBack_turned (A : Option Addr) (c : Nat) (ks : List Ky) (a0 a1 a2 a3 a4 a5 a6 a7 a8 a9 a10 a11 a12 a13 a14 : Int) (w : World) (hr : RdK w A ks) (hl : ks.length ≤ 9223372036854775807) (b t Gl : List Int) (n : Nat) (hbg : bigB ks = false) (hE : ∀ W, RdK W A ks → Calls Try.prog 13 #[.slice A ks.length c, .agg #[.int .i64 a0, .int .i64 a1, .int .i64 a2, .int .i64 a3, .int .i64 a4, .int .i64 a5, .int .i64 a6, .int .i64 a7, .int .i64 a8, .int .i64 a9, .int .i64 a10, .int .i64 a11, .int .i64 a12, .int .i64 a13, .int .i64 a14]] W (ByteRetE (b, 0) W)) (hD1 : ∀ As cs W, RdK W A ks → RdI W .u8 As b → Calls Try.prog 29 #[.slice A ks.length c, .slice As n cs] W fun e w' => e = .returned (.tuple #[.agg #[.int .i64 a0, .int .i64 a1, .int .i64 a2, .int .i64 a3, .int .i64 a4, .int .i64 a5, .int .i64 a6, .int .i64 a7, .int .i64 a8, .int .i64 a9, .int .i64 a10, .int .i64 a11, .int .i64 a12, .int .i64 a13, .int .i64 a14], .int .i64 0]) ∧ Below W.heap.size W w') (hTu : ∀ A' c' W, RdI W .u8 A' b → Calls Try.prog 30 #[.slice A' n c'] W fun e w' => (∃ g, e = .returned (.slice (some ⟨g, 0, none⟩) n n) ∧ w'.ownsRow W.heap.size 5 1 (.slice (some ⟨g, 0, none⟩) n n) n (bv t)) ∧ Below W.heap.size W w') (HN : Hid (b.length = n)) (HT : Hid (t.length = n)) (Gz : Int) (hgz : (Gz == 0) = false) (hG : ∀ A' c' W, RdI W .u8 A' t → Calls Try.prog 31 #[.slice A' n c'] W (ByteRetE (Gl, Gz) W)) (hD2 : ∀ As cs W, RdK W A ks → RdI W .u8 As t → Calls Try.prog 29 #[.slice A ks.length c, .slice As n cs] W fun e w' => e = .returned (.tuple #[.agg #[.int .i64 a0, .int .i64 a1, .int .i64 a2, .int .i64 a3, .int .i64 a4, .int .i64 a5, .int .i64 a6, .int .i64 a7, .int .i64 a8, .int .i64 a9, .int .i64 a10, .int .i64 a11, .int .i64 a12, .int .i64 a13, .int .i64 a14], .int .i64 0]) ∧ Below W.heap.size W w') :
    Calls Try.prog 8 #[.slice A ks.length c, .agg #[.int .i64 a0, .int .i64 a1, .int .i64 a2, .int .i64 a3, .int .i64 a4, .int .i64 a5, .int .i64 a6, .int .i64 a7, .int .i64 a8, .int .i64 a9, .int .i64 a10, .int .i64 a11, .int .i64 a12, .int .i64 a13, .int .i64 a14]] w fun e w' => e = .returned (.bool true) ∧ Below w.heap.size w w' := by
  have hB := fun W hW => big_any A c ks W hW hl
  have hr1 := hr.below (bel1 w (.cells #[.int .i64 a0, .int .i64 a1, .int .i64 a2, .int .i64 a3, .int .i64 a4, .int .i64 a5, .int .i64 a6, .int .i64 a7, .int .i64 a8, .int .i64 a9, .int .i64 a10, .int .i64 a11, .int .i64 a12, .int .i64 a13, .int .i64 a14] 36)) (Nat.le_refl _)
  have P1 := heap_alloc_new w (.cells #[.int .i64 a0, .int .i64 a1, .int .i64 a2, .int .i64 a3, .int .i64 a4, .int .i64 a5, .int .i64 a6, .int .i64 a7, .int .i64 a8, .int .i64 a9, .int .i64 a10, .int .i64 a11, .int .i64 a12, .int .i64 a13, .int .i64 a14] 36)
  have B1 := bel1 w (.cells #[.int .i64 a0, .int .i64 a1, .int .i64 a2, .int .i64 a3, .int .i64 a4, .int .i64 a5, .int .i64 a6, .int .i64 a7, .int .i64 a8, .int .i64 a9, .int .i64 a10, .int .i64 a11, .int .i64 a12, .int .i64 a13, .int .i64 a14] 36)
  go_enter Try.func8, Try.ntmps8
  go_wp2_with (first | (go_at_call 13; (with_reducible refine (hE _ hr1).mono ?_); rintro e w2 ⟨v, rfl, ho, hb2⟩; replace ho : w2.ownsRow (w.alloc (.cells #[.int .i64 a0, .int .i64 a1, .int .i64 a2, .int .i64 a3, .int .i64 a4, .int .i64 a5, .int .i64 a6, .int .i64 a7, .int .i64 a8, .int .i64 a9, .int .i64 a10, .int .i64 a11, .int .i64 a12, .int .i64 a13, .int .i64 a14] 36)).heap.size 5 1 v b.length (b.map (.int .u8)) := ho; rw [HN.out] at ho; obtain ⟨As, cs, rfl, _, _⟩ := own_slice ho; have S2 := rd_own_len HN.out ho; have K2 := hr1.below hb2 (Nat.le_refl _); have P2 := (hb2.block _ (Array.getElem?_eq_some_iff.1 P1).1).trans P1; have B2 := bT B1 hb2; clear hb2 ho) | (go_at_call 15; (with_reducible refine (hB _ K2).mono ?_); rintro e w3 ⟨he, rfl⟩; rw [hbg] at he; subst he) | (go_at_call 29; (with_reducible refine (hD1 As cs _ K2 S2).mono ?_); rintro e w3 ⟨rfl, hb3⟩; have hA3 := bA hb3 (.cells #[.int .i64 a0, .int .i64 a1, .int .i64 a2, .int .i64 a3, .int .i64 a4, .int .i64 a5, .int .i64 a6, .int .i64 a7, .int .i64 a8, .int .i64 a9, .int .i64 a10, .int .i64 a11, .int .i64 a12, .int .i64 a13, .int .i64 a14] 36); have X3 := heap_alloc_new w3 (.cells #[.int .i64 a0, .int .i64 a1, .int .i64 a2, .int .i64 a3, .int .i64 a4, .int .i64 a5, .int .i64 a6, .int .i64 a7, .int .i64 a8, .int .i64 a9, .int .i64 a10, .int .i64 a11, .int .i64 a12, .int .i64 a13, .int .i64 a14] 36); have K3 := K2.below hA3 (Nat.le_refl _); have S3 := S2.below hA3; have P3 := (hA3.block _ (Array.getElem?_eq_some_iff.1 P2).1).trans P2; have B3 := bT B2 hA3; clear hb3 hA3) | (go_at_call 30; (with_reducible refine (hTu _ _ _ S3).mono ?_); rintro e w4 ⟨⟨g4, rfl, ho4⟩, hb4⟩; have T4 := rd_own_len HT.out ho4; have K4 := K3.below hb4 (Nat.le_refl _); have S4 := S3.below hb4; have P4 := (hb4.block _ (Array.getElem?_eq_some_iff.1 P3).1).trans P3; have X4 := (hb4.block _ (Array.getElem?_eq_some_iff.1 X3).1).trans X3; have B4 := bT B3 hb4; have cx0 := cell_of_row _ w3.heap.size 0 _ _ _ X4; have cp0 := cell_of_row _ w.heap.size 0 _ _ _ P4; have cx1 := cell_of_row _ w3.heap.size 1 _ _ _ X4; have cp1 := cell_of_row _ w.heap.size 1 _ _ _ P4; have cx2 := cell_of_row _ w3.heap.size 2 _ _ _ X4; have cp2 := cell_of_row _ w.heap.size 2 _ _ _ P4; have cx3 := cell_of_row _ w3.heap.size 3 _ _ _ X4; have cp3 := cell_of_row _ w.heap.size 3 _ _ _ P4; have cx4 := cell_of_row _ w3.heap.size 4 _ _ _ X4; have cp4 := cell_of_row _ w.heap.size 4 _ _ _ P4; have cx5 := cell_of_row _ w3.heap.size 5 _ _ _ X4; have cp5 := cell_of_row _ w.heap.size 5 _ _ _ P4; have cx6 := cell_of_row _ w3.heap.size 6 _ _ _ X4; have cp6 := cell_of_row _ w.heap.size 6 _ _ _ P4; have cx7 := cell_of_row _ w3.heap.size 7 _ _ _ X4; have cp7 := cell_of_row _ w.heap.size 7 _ _ _ P4; have cx8 := cell_of_row _ w3.heap.size 8 _ _ _ X4; have cp8 := cell_of_row _ w.heap.size 8 _ _ _ P4; have cx9 := cell_of_row _ w3.heap.size 9 _ _ _ X4; have cp9 := cell_of_row _ w.heap.size 9 _ _ _ P4; have cx10 := cell_of_row _ w3.heap.size 10 _ _ _ X4; have cp10 := cell_of_row _ w.heap.size 10 _ _ _ P4; have cx11 := cell_of_row _ w3.heap.size 11 _ _ _ X4; have cp11 := cell_of_row _ w.heap.size 11 _ _ _ P4; have cx12 := cell_of_row _ w3.heap.size 12 _ _ _ X4; have cp12 := cell_of_row _ w.heap.size 12 _ _ _ P4; have cx13 := cell_of_row _ w3.heap.size 13 _ _ _ X4; have cp13 := cell_of_row _ w.heap.size 13 _ _ _ P4; have cx14 := cell_of_row _ w3.heap.size 14 _ _ _ X4; have cp14 := cell_of_row _ w.heap.size 14 _ _ _ P4; clear ho4 hb4) | (go_at_call 31; (with_reducible refine (hG _ _ _ T4).mono ?_); rintro e w5 ⟨v5, rfl, _, hb5⟩; have T5 := T4.below hb5; have K5 := K4.below hb5 (Nat.le_refl _); have S5 := S4.below hb5; have P5 := (hb5.block _ (Array.getElem?_eq_some_iff.1 P4).1).trans P4; have B5 := bT B4 hb5; clear hb5) | (go_at_call 29; (with_reducible refine (hD2 _ _ _ K5 T5).mono ?_); rintro e w6 ⟨rfl, hb6⟩; have hA6 := bA hb6 (.cells #[.int .i64 a0, .int .i64 a1, .int .i64 a2, .int .i64 a3, .int .i64 a4, .int .i64 a5, .int .i64 a6, .int .i64 a7, .int .i64 a8, .int .i64 a9, .int .i64 a10, .int .i64 a11, .int .i64 a12, .int .i64 a13, .int .i64 a14] 36); have Y6 := heap_alloc_new w6 (.cells #[.int .i64 a0, .int .i64 a1, .int .i64 a2, .int .i64 a3, .int .i64 a4, .int .i64 a5, .int .i64 a6, .int .i64 a7, .int .i64 a8, .int .i64 a9, .int .i64 a10, .int .i64 a11, .int .i64 a12, .int .i64 a13, .int .i64 a14] 36); have P6 := (hA6.block _ (Array.getElem?_eq_some_iff.1 P5).1).trans P5; have B8 := bT B5 hA6; clear hb6 hA6) | (go_at_call 26; (with_reducible refine (coded15_any _).mono ?_); rintro e w9 ⟨rfl, hb9⟩; have cy0 := cell_of_row _ w6.heap.size 0 _ _ _ ((hb9.block _ (Array.getElem?_eq_some_iff.1 Y6).1).trans Y6); have cq0 := cell_of_row _ w.heap.size 0 _ _ _ ((hb9.block _ (Array.getElem?_eq_some_iff.1 P6).1).trans P6); have cy1 := cell_of_row _ w6.heap.size 1 _ _ _ ((hb9.block _ (Array.getElem?_eq_some_iff.1 Y6).1).trans Y6); have cq1 := cell_of_row _ w.heap.size 1 _ _ _ ((hb9.block _ (Array.getElem?_eq_some_iff.1 P6).1).trans P6); have cy2 := cell_of_row _ w6.heap.size 2 _ _ _ ((hb9.block _ (Array.getElem?_eq_some_iff.1 Y6).1).trans Y6); have cq2 := cell_of_row _ w.heap.size 2 _ _ _ ((hb9.block _ (Array.getElem?_eq_some_iff.1 P6).1).trans P6); have cy3 := cell_of_row _ w6.heap.size 3 _ _ _ ((hb9.block _ (Array.getElem?_eq_some_iff.1 Y6).1).trans Y6); have cq3 := cell_of_row _ w.heap.size 3 _ _ _ ((hb9.block _ (Array.getElem?_eq_some_iff.1 P6).1).trans P6); have cy4 := cell_of_row _ w6.heap.size 4 _ _ _ ((hb9.block _ (Array.getElem?_eq_some_iff.1 Y6).1).trans Y6); have cq4 := cell_of_row _ w.heap.size 4 _ _ _ ((hb9.block _ (Array.getElem?_eq_some_iff.1 P6).1).trans P6); have cy5 := cell_of_row _ w6.heap.size 5 _ _ _ ((hb9.block _ (Array.getElem?_eq_some_iff.1 Y6).1).trans Y6); have cq5 := cell_of_row _ w.heap.size 5 _ _ _ ((hb9.block _ (Array.getElem?_eq_some_iff.1 P6).1).trans P6); have cy6 := cell_of_row _ w6.heap.size 6 _ _ _ ((hb9.block _ (Array.getElem?_eq_some_iff.1 Y6).1).trans Y6); have cq6 := cell_of_row _ w.heap.size 6 _ _ _ ((hb9.block _ (Array.getElem?_eq_some_iff.1 P6).1).trans P6); have cy7 := cell_of_row _ w6.heap.size 7 _ _ _ ((hb9.block _ (Array.getElem?_eq_some_iff.1 Y6).1).trans Y6); have cq7 := cell_of_row _ w.heap.size 7 _ _ _ ((hb9.block _ (Array.getElem?_eq_some_iff.1 P6).1).trans P6); have cy8 := cell_of_row _ w6.heap.size 8 _ _ _ ((hb9.block _ (Array.getElem?_eq_some_iff.1 Y6).1).trans Y6); have cq8 := cell_of_row _ w.heap.size 8 _ _ _ ((hb9.block _ (Array.getElem?_eq_some_iff.1 P6).1).trans P6); have cy9 := cell_of_row _ w6.heap.size 9 _ _ _ ((hb9.block _ (Array.getElem?_eq_some_iff.1 Y6).1).trans Y6); have cq9 := cell_of_row _ w.heap.size 9 _ _ _ ((hb9.block _ (Array.getElem?_eq_some_iff.1 P6).1).trans P6); have cy10 := cell_of_row _ w6.heap.size 10 _ _ _ ((hb9.block _ (Array.getElem?_eq_some_iff.1 Y6).1).trans Y6); have cq10 := cell_of_row _ w.heap.size 10 _ _ _ ((hb9.block _ (Array.getElem?_eq_some_iff.1 P6).1).trans P6); have cy11 := cell_of_row _ w6.heap.size 11 _ _ _ ((hb9.block _ (Array.getElem?_eq_some_iff.1 Y6).1).trans Y6); have cq11 := cell_of_row _ w.heap.size 11 _ _ _ ((hb9.block _ (Array.getElem?_eq_some_iff.1 P6).1).trans P6); have cy12 := cell_of_row _ w6.heap.size 12 _ _ _ ((hb9.block _ (Array.getElem?_eq_some_iff.1 Y6).1).trans Y6); have cq12 := cell_of_row _ w.heap.size 12 _ _ _ ((hb9.block _ (Array.getElem?_eq_some_iff.1 P6).1).trans P6); have cy13 := cell_of_row _ w6.heap.size 13 _ _ _ ((hb9.block _ (Array.getElem?_eq_some_iff.1 Y6).1).trans Y6); have cq13 := cell_of_row _ w.heap.size 13 _ _ _ ((hb9.block _ (Array.getElem?_eq_some_iff.1 P6).1).trans P6); have cy14 := cell_of_row _ w6.heap.size 14 _ _ _ ((hb9.block _ (Array.getElem?_eq_some_iff.1 Y6).1).trans Y6); have cq14 := cell_of_row _ w.heap.size 14 _ _ _ ((hb9.block _ (Array.getElem?_eq_some_iff.1 P6).1).trans P6)))
  go_ret
  exact ⟨by simp, bT B8 hb9⟩
theorem stripeBack_any (A : Option Addr) (c : Nat) (ks : List Ky) (a0 a1 a2 a3 a4 a5 a6 a7 a8 a9 a10 a11 a12 a13 a14 : Int) (w : World) (hr : RdK w A ks) (hl : ks.length ≤ 9223372036854775807) (hv : ∀ x ∈ [a0, a1, a2, a3, a4, a5, a6, a7, a8, a9, a10, a11, a12, a13, a14], x ≤ 9223372036854775807) :
    Calls Try.prog 8 #[.slice A ks.length c, .agg #[.int .i64 a0, .int .i64 a1, .int .i64 a2, .int .i64 a3, .int .i64 a4, .int .i64 a5, .int .i64 a6, .int .i64 a7, .int .i64 a8, .int .i64 a9, .int .i64 a10, .int .i64 a11, .int .i64 a12, .int .i64 a13, .int .i64 a14]] w fun e w' => e = .returned (.bool true) ∧ Below w.heap.size w w' := by
  have hE := fun W hW => stEncode_any A c ks a0 a1 a2 a3 a4 a5 a6 a7 a8 a9 a10 a11 a12 a13 a14 W hW hl hv
  have hbk := fun b => st_back (ks := ks) (l := [a0, a1, a2, a3, a4, a5, a6, a7, a8, a9, a10, a11, a12, a13, a14]) (b := b) rfl
  generalize encS ks [a0, a1, a2, a3, a4, a5, a6, a7, a8, a9, a10, a11, a12, a13, a14] = rv at *
  obtain ⟨b, z⟩ := rv
  cases hbg : bigB ks
  rotate_left
  · exact stBack_big A c ks a0 a1 a2 a3 a4 a5 a6 a7 a8 a9 a10 a11 a12 a13 a14 w hr hl b z hbg hE
  by_cases h0 : z = 0
  rotate_left
  · exact stBack_no A c ks a0 a1 a2 a3 a4 a5 a6 a7 a8 a9 a10 a11 a12 a13 a14 w hr hl b z hbg (by simpa using h0) hE
  subst h0
  obtain ⟨d1, d2, d3, d4⟩ := hbk b rfl
  have tl := turn_len b
  have tb := turn_byte b
  have hTu : ∀ A' c' W, RdI W .u8 A' b → Calls Try.prog 30 #[.slice A' b.length c'] W fun e w' => (∃ g, e = .returned (.slice (some ⟨g, 0, none⟩) b.length b.length) ∧ w'.ownsRow W.heap.size 5 1 (.slice (some ⟨g, 0, none⟩) b.length b.length) b.length (bv (turnB b))) ∧ Below W.heap.size W w' := fun A' c' W h => turn_any A' c' b W h (by omega) d3
  have hD1 : ∀ As cs W, RdK W A ks → RdI W .u8 As b → Calls Try.prog 29 #[.slice A ks.length c, .slice As b.length cs] W fun e w' => e = .returned (.tuple #[.agg #[.int .i64 a0, .int .i64 a1, .int .i64 a2, .int .i64 a3, .int .i64 a4, .int .i64 a5, .int .i64 a6, .int .i64 a7, .int .i64 a8, .int .i64 a9, .int .i64 a10, .int .i64 a11, .int .i64 a12, .int .i64 a13, .int .i64 a14], .int .i64 0]) ∧ Below W.heap.size W w' := by
    intro As cs W g1 g2
    have h := stDecode_any A c ks As cs b W g1 hl g2 (by omega) d3
    rw [d1] at h
    exact h
  have hG := fun A' c' W h => trackGet_len A' c' b.length (turnB b) W tl h tb
  have hD2 : ∀ As cs W, RdK W A ks → RdI W .u8 As (turnB b) → Calls Try.prog 29 #[.slice A ks.length c, .slice As b.length cs] W (GetRet (decS ks (turnB b)) W) := by
    intro As cs W g1 g2
    have h := stDecode_any A c ks As cs (turnB b) W g1 hl g2 (by rw [tl]; omega) tb
    rw [tl] at h
    exact h
  by_cases ht : (trackGet (turnB b)).2 = 0
  · refine stBack_track A c ks a0 a1 a2 a3 a4 a5 a6 a7 a8 a9 a10 a11 a12 a13 a14 w hr hl b (turnB b) (trackGet (turnB b)).1 b.length hbg hE hD1 hTu (Lib.hid rfl) (Lib.hid tl) ?_ (decS ks (turnB b)).1 (decS ks (turnB b)).2 (decS_15 _ _) hD2
    intro A' c' W h
    have h2 := hG A' c' W h
    rw [show trackGet (turnB b) = ((trackGet (turnB b)).1, 0) from Prod.ext rfl ht] at h2
    exact h2
  · refine stBack_turned A c ks a0 a1 a2 a3 a4 a5 a6 a7 a8 a9 a10 a11 a12 a13 a14 w hr hl b (turnB b) (trackGet (turnB b)).1 b.length hbg hE hD1 hTu (Lib.hid rfl) (Lib.hid tl) (trackGet (turnB b)).2 (by simpa using ht) hG ?_
    rw [d2 ht] at hD2
    exact hD2
end Go.Proofs.Ytnbghgenaolfgaa

namespace Go.Proofs.Ytnbghgenaolfgaa
open Go.RowKit
set_option linter.unusedVariables false
set_option maxRecDepth 100000
set_option linter.unusedSimpArgs false

set_option maxHeartbeats 8000000 in
set_option maxRecDepth 100000 in
theorem stOne_no (A : Option Addr) (c : Nat) (ks : List Ky) (B : Option Addr) (cb n : Nat) (s yl : List Int) (yz : Int) (w : World) (hr : RdK w A ks) (hl : ks.length ≤ 9223372036854775807) (hs : RdI w .u8 B s) (HN : Hid (s.length = n)) (hy : yl.length = 15)
    (b1 b2 b3 : Bool) (hbg : bigB ks = b1) (d2 : decide ((1000 : Int) < (n : Int)) = b2) (d3 : (yz != 0) = b3) (hany : b1 = true ∨ b2 = true ∨ b3 = true)
    (hD : ∀ W, RdK W A ks → RdI W .u8 B s → Calls Try.prog 29 #[.slice A ks.length c, .slice B n cb] W fun e w' => e = .returned (.tuple #[.agg (rdC yl), .int .i64 yz]) ∧ Below W.heap.size W w') :
    Calls Try.prog 9 #[.slice A ks.length c, .slice B n cb] w fun e w' => e = .returned (.bool true) ∧ Below w.heap.size w w' := by
  have hB := fun W hW => big_any A c ks W hW hl
  have HA := Lib.hid hany
  clear hany
  cases b1 <;> cases b2 <;> cases b3 <;> first | exact absurd HA.out (by decide) | skip
  all_goals
    go_enter Try.func9, Try.ntmps9
    go_wp2_with (first | (go_at_call 29; (with_reducible refine (hD _ hr hs).mono ?_); rintro e w1 ⟨rfl, hb1⟩; have hA1 := bA hb1 (.cells #[.int .i64 0, .int .i64 0, .int .i64 0, .int .i64 0, .int .i64 0, .int .i64 0, .int .i64 0, .int .i64 0, .int .i64 0, .int .i64 0, .int .i64 0, .int .i64 0, .int .i64 0, .int .i64 0, .int .i64 0] 36); have Y1 := heap_alloc_new w1 (.cells #[.int .i64 0, .int .i64 0, .int .i64 0, .int .i64 0, .int .i64 0, .int .i64 0, .int .i64 0, .int .i64 0, .int .i64 0, .int .i64 0, .int .i64 0, .int .i64 0, .int .i64 0, .int .i64 0, .int .i64 0] 36); have hz1 := hb1.size; have B2 : Below w.heap.size w ((w1.alloc (.cells #[.int .i64 0, .int .i64 0, .int .i64 0, .int .i64 0, .int .i64 0, .int .i64 0, .int .i64 0, .int .i64 0, .int .i64 0, .int .i64 0, .int .i64 0, .int .i64 0, .int .i64 0, .int .i64 0, .int .i64 0] 36)).setRow w1.heap.size (rdC yl)) := setRow_below hA1 hz1; have K2 := hr.below B2 (Nat.le_refl _); clear hb1 hA1) | (refine wpList_store_row rfl 36 _ _ rfl w1.heap.size (rdC yl) rfl rfl 36 _ Y1 ?_ ?_ (rdC_one _) ?_; (focus (rw [rdC_size hy]; exact infoR)); (focus (rw [rdC_size hy]; rfl))) | (go_at_call 15; (with_reducible refine (hB _ K2).mono ?_); rintro e w3 ⟨he, rfl⟩; rw [hbg] at he; subst he) | (go_at_call 26; (with_reducible refine (coded15_any _).mono ?_); rintro e w4 ⟨rfl, hb4⟩))
    go_ret
    exact ⟨rfl, bT B2 hb4⟩
set_option maxHeartbeats 8000000 in
set_option maxRecDepth 100000 in
theorem stOne_yes (A : Option Addr) (c : Nat) (ks : List Ky) (B : Option Addr) (cb n : Nat) (s d t : List Int) (bk : Bool) (a0 a1 a2 a3 a4 a5 a6 a7 a8 a9 a10 a11 a12 a13 a14 : Int) (w : World) (hr : RdK w A ks) (hl : ks.length ≤ 9223372036854775807) (hs : RdI w .u8 B s) (HN : Hid (s.length = n)) (HT : Hid (t.length = n))
    (hbg : bigB ks = false) (d2 : decide ((1000 : Int) < (n : Int)) = false) (hn9 : n ≤ 9000)
    (hD : ∀ W, RdK W A ks → RdI W .u8 B s → Calls Try.prog 29 #[.slice A ks.length c, .slice B n cb] W fun e w' => e = .returned (.tuple #[.agg #[.int .i64 a0, .int .i64 a1, .int .i64 a2, .int .i64 a3, .int .i64 a4, .int .i64 a5, .int .i64 a6, .int .i64 a7, .int .i64 a8, .int .i64 a9, .int .i64 a10, .int .i64 a11, .int .i64 a12, .int .i64 a13, .int .i64 a14], .int .i64 0]) ∧ Below W.heap.size W w')
    (hE : ∀ W, RdK W A ks → Calls Try.prog 13 #[.slice A ks.length c, .agg #[.int .i64 a0, .int .i64 a1, .int .i64 a2, .int .i64 a3, .int .i64 a4, .int .i64 a5, .int .i64 a6, .int .i64 a7, .int .i64 a8, .int .i64 a9, .int .i64 a10, .int .i64 a11, .int .i64 a12, .int .i64 a13, .int .i64 a14]] W (ByteRetE (if bk then t else s, 0) W))
    (hS : ∀ W, RdI W .u8 B s → Calls Try.prog 32 #[.slice B n cb] W (SwRet (d, bk, 0) W))
    (hTu : ∀ W, RdI W .u8 B s → Calls Try.prog 30 #[.slice B n cb] W fun e w' => (∃ g, e = .returned (.slice (some ⟨g, 0, none⟩) n n) ∧ w'.ownsRow W.heap.size 5 1 (.slice (some ⟨g, 0, none⟩) n n) n (bv t)) ∧ Below W.heap.size W w') :
    Calls Try.prog 9 #[.slice A ks.length c, .slice B n cb] w fun e w' => e = .returned (.bool true) ∧ Below w.heap.size w w' := by
  have hB := fun W hW => big_any A c ks W hW hl
  have hQ : ∀ A' B' c' d' (l : List Int) W, l.length = n → RdI W .u8 A' l → RdI W .u8 B' l → Calls Try.prog 19 #[.slice A' n c', .slice B' n d'] W (SameRet l l W) := by
    intro A' B' c' d' l W h1 h2 h3
    have h := same01_any A' B' c' d' l l W h2 h3 (by omega) (by omega)
    rw [h1] at h
    exact h
  have hself : ∀ l : List Int, (l == l) = true := fun l => by simp
  cases bk with
  | false =>
    go_enter Try.func9, Try.ntmps9
    go_wp2_with (first | (go_at_call 29; (with_reducible refine (hD _ hr hs).mono ?_); rintro e w1 ⟨rfl, hb1⟩; have B2 := bA hb1 (.cells #[.int .i64 a0, .int .i64 a1, .int .i64 a2, .int .i64 a3, .int .i64 a4, .int .i64 a5, .int .i64 a6, .int .i64 a7, .int .i64 a8, .int .i64 a9, .int .i64 a10, .int .i64 a11, .int .i64 a12, .int .i64 a13, .int .i64 a14] 36); have Y2 := heap_alloc_new w1 (.cells #[.int .i64 a0, .int .i64 a1, .int .i64 a2, .int .i64 a3, .int .i64 a4, .int .i64 a5, .int .i64 a6, .int .i64 a7, .int .i64 a8, .int .i64 a9, .int .i64 a10, .int .i64 a11, .int .i64 a12, .int .i64 a13, .int .i64 a14] 36); have K2 := hr.below B2 (Nat.le_refl _); have S2 := hs.below B2; clear hb1) | (go_at_call 15; (with_reducible refine (hB _ K2).mono ?_); rintro e w3 ⟨he, rfl⟩; rw [hbg] at he; subst he) | (go_at_call 13; (with_reducible refine (hE _ K2).mono ?_); rintro e w3 ⟨v, rfl, ho, hb3⟩; replace ho : w3.ownsRow _ 5 1 v s.length (s.map (.int .u8)) := ho; rw [HN.out] at ho; obtain ⟨As, cs, rfl, _, _⟩ := own_slice ho; have T3 := rd_own_len HN.out ho; have S3 := S2.below hb3; have B3 := bT B2 hb3; clear hb3 ho) | (go_at_call 32; (with_reducible refine (hS _ S3).mono ?_); rintro e w4 ⟨v4, rfl, _, hb4⟩; have S4 := S3.below hb4; have T4 := T3.below hb4; have B4 := bT B3 hb4; clear hb4) | (refine wpList_load_row rfl 36 (.tmp 5) rfl w1.heap.size rfl 36 #[.int .i64 a0, .int .i64 a1, .int .i64 a2, .int .i64 a3, .int .i64 a4, .int .i64 a5, .int .i64 a6, .int .i64 a7, .int .i64 a8, .int .i64 a9, .int .i64 a10, .int .i64 a11, .int .i64 a12, .int .i64 a13, .int .i64 a14] (0, 0) _ Y2 Try.underlying36 rfl ?_ ?_; (focus (exact infoR))) | (go_at_call 26; (with_reducible refine (coded15_any _).mono ?_); rintro e w5 ⟨rfl, hb5⟩; have S5 := S4.below hb5; have T5 := T4.below hb5; have B5 := bT B4 hb5; clear hb5) | (go_at_call 19; (with_reducible refine (hQ _ _ _ _ s _ HN.out S5 T5).mono ?_); rintro e w7 ⟨rfl, n7, rfl⟩; have hs7 := hself s))
    go_ret
    exact ⟨by simp, bN B5 _⟩
  | true =>
    go_enter Try.func9, Try.ntmps9
    go_wp2_with (first | (go_at_call 29; (with_reducible refine (hD _ hr hs).mono ?_); rintro e w1 ⟨rfl, hb1⟩; have B2 := bA hb1 (.cells #[.int .i64 a0, .int .i64 a1, .int .i64 a2, .int .i64 a3, .int .i64 a4, .int .i64 a5, .int .i64 a6, .int .i64 a7, .int .i64 a8, .int .i64 a9, .int .i64 a10, .int .i64 a11, .int .i64 a12, .int .i64 a13, .int .i64 a14] 36); have Y2 := heap_alloc_new w1 (.cells #[.int .i64 a0, .int .i64 a1, .int .i64 a2, .int .i64 a3, .int .i64 a4, .int .i64 a5, .int .i64 a6, .int .i64 a7, .int .i64 a8, .int .i64 a9, .int .i64 a10, .int .i64 a11, .int .i64 a12, .int .i64 a13, .int .i64 a14] 36); have K2 := hr.below B2 (Nat.le_refl _); have S2 := hs.below B2; clear hb1) | (go_at_call 15; (with_reducible refine (hB _ K2).mono ?_); rintro e w3 ⟨he, rfl⟩; rw [hbg] at he; subst he) | (go_at_call 13; (with_reducible refine (hE _ K2).mono ?_); rintro e w3 ⟨v, rfl, ho, hb3⟩; replace ho : w3.ownsRow _ 5 1 v t.length (t.map (.int .u8)) := ho; rw [HT.out] at ho; obtain ⟨As, cs, rfl, _, _⟩ := own_slice ho; have T3 := rd_own_len HT.out ho; have S3 := S2.below hb3; have B3 := bT B2 hb3; clear hb3 ho) | (go_at_call 32; (with_reducible refine (hS _ S3).mono ?_); rintro e w4 ⟨v4, rfl, _, hb4⟩; have S4 := S3.below hb4; have T4 := T3.below hb4; have B4 := bT B3 hb4; clear hb4) | (refine wpList_load_row rfl 36 (.tmp 5) rfl w1.heap.size rfl 36 #[.int .i64 a0, .int .i64 a1, .int .i64 a2, .int .i64 a3, .int .i64 a4, .int .i64 a5, .int .i64 a6, .int .i64 a7, .int .i64 a8, .int .i64 a9, .int .i64 a10, .int .i64 a11, .int .i64 a12, .int .i64 a13, .int .i64 a14] (0, 0) _ Y2 Try.underlying36 rfl ?_ ?_; (focus (exact infoR))) | (go_at_call 26; (with_reducible refine (coded15_any _).mono ?_); rintro e w5 ⟨rfl, hb5⟩; have S5 := S4.below hb5; have T5 := T4.below hb5; have B5 := bT B4 hb5; clear hb5) | (go_at_call 30; (with_reducible refine (hTu _ S5).mono ?_); rintro e w6 ⟨⟨g6, rfl, ho6⟩, hb6⟩; have U6 := rd_own_len HT.out ho6; have T6 := T5.below hb6; have B6 := bT B5 hb6; clear ho6 hb6) | (go_at_call 19; (with_reducible refine (hQ _ _ _ _ t _ HT.out U6 T6).mono ?_); rintro e w7 ⟨rfl, n7, rfl⟩; have hs7 := hself t))
    go_ret
    exact ⟨by simp, bN B6 _⟩
theorem stripeOne_any (A : Option Addr) (c : Nat) (ks : List Ky) (B : Option Addr) (cb : Nat) (s : List Int) (w : World) (hr : RdK w A ks) (hl : ks.length ≤ 9223372036854775807) (hs : RdI w .u8 B s) (hsb : ∀ x ∈ s, 0 ≤ x ∧ x < 256) (hsl : s.length ≤ 1048576) :
    Calls Try.prog 9 #[.slice A ks.length c, .slice B s.length cb] w fun e w' => e = .returned (.bool true) ∧ Below w.heap.size w w' := by
  have hD := fun W g1 g2 => stDecode_any A c ks B cb s W g1 hl g2 (by omega) hsb
  by_cases hz : (decS ks s).2 = 0
  rotate_left
  · exact stOne_no A c ks B cb s.length s (decS ks s).1 (decS ks s).2 w hr hl hs (Lib.hid rfl) (decS_15 _ _) _ _ _ rfl rfl rfl (.inr (.inr (by simpa using hz))) hD
  cases hbg : bigB ks with
  | true => exact stOne_no A c ks B cb s.length s (decS ks s).1 (decS ks s).2 w hr hl hs (Lib.hid rfl) (decS_15 _ _) _ _ _ rfl rfl rfl (.inl hbg) hD
  | false =>
    by_cases hn : (1000 : Int) < (s.length : Int)
    · exact stOne_no A c ks B cb s.length s (decS ks s).1 (decS ks s).2 w hr hl hs (Lib.hid rfl) (decS_15 _ _) _ _ _ rfl rfl rfl (.inr (.inl (decide_eq_true hn))) hD
    · have hd : decS ks s = ((decS ks s).1, 0) := Prod.ext rfl hz
      obtain ⟨hl15, hsw, hen⟩ := st_one hd
      obtain ⟨a0, a1, a2, a3, a4, a5, a6, a7, a8, a9, a10, a11, a12, a13, a14, hL⟩ := list15 _ hl15
      have hS := fun W h => swipeRead_any B cb s W h (by omega) hsb
      obtain ⟨⟨d, bk, z⟩, hw⟩ : ∃ q, swipeRd s = q := ⟨_, rfl⟩
      rw [hw] at hS hen hsw
      simp only at hen hsw
      subst hsw
      have hle : ∀ x ∈ [a0, a1, a2, a3, a4, a5, a6, a7, a8, a9, a10, a11, a12, a13, a14], x ≤ 9223372036854775807 := by
        obtain ⟨x, k, h1, h2, h3, h4⟩ := st_parts (b := if bk then turnB s else s) hen
        rw [hL] at h2
        exact lay_le h2
      refine stOne_yes A c ks B cb s.length s d (turnB s) bk a0 a1 a2 a3 a4 a5 a6 a7 a8 a9 a10 a11 a12 a13 a14 w hr hl hs (Lib.hid rfl) (Lib.hid (turn_len s)) hbg (decide_eq_false hn) (by omega) ?_ ?_ hS (fun W h => turn_any B cb s W h (by omega) hsb)
      · intro W g1 g2
        have h := hD W g1 g2
        rw [hd, hL] at h
        exact h
      · intro W g1
        have h := stEncode_any A c ks a0 a1 a2 a3 a4 a5 a6 a7 a8 a9 a10 a11 a12 a13 a14 W g1 hl hle
        rw [← hL, hen] at h
        exact h
end Go.Proofs.Ytnbghgenaolfgaa

namespace Go.Proofs.Ytnbghgenaolfgaa.stripeOne
open Go.ChangeShapes Go.WideShapes Go.ChangeAt Go.RowKit
open Go.ChangeMaps (open_string shut_string)
set_option linter.unusedVariables false
set_option maxRecDepth 100000
theorem own : ownKnob Try.prog.godebug = none := by kernel_rfl
theorem laidOut : laidOutB Try.prog = true := by kernel_rfl
set_option maxRecDepth 100000 in
theorem lifted (os : Os) (started : os.Started) (H : Type) (enc : TypeId × Value → H) (F : Stop.Interp) :
    ReturnsInHanded {} Try.checked os 9 .any ((Rows.OpenSpec.upto Rows.stripeOneSpec).pre6 enc Try.prog Try.f9 Rows.stripeOneUptoRow.domain false) (((Rows.OpenSpec.upto Rows.stripeOneSpec).at F).post enc Try.prog Try.f9 false true false false) := by
  refine returnsInHanded_of_cond (C := Try.checked) (k := Rows.uptoSmall) rfl own started (by kernel_rfl) Try.func9
    (OpenSpec.witness (enc := enc) (C := Try.checked) (k := Rows.uptoSmall) rfl false ⟨#[], #[.slice none 0 0, .slice none 0 0], []⟩ 8 (by kernel_rfl) (by kernel_rfl) (by kernel_rfl) (x := (DataW.whole enc Try.prog (World.plainHolding Try.prog os ⟨#[], #[.slice none 0 0, .slice none 0 0], []⟩).memory Try.f9.params.toList [] false [.slice none 0 0, .slice none 0 0] 8).getD ([], [], [])) (by kernel_rfl) (by kernel_rfl) (by kernel_rfl)) ?_
  intro W base args ds gs before hval0 hW hcnd hkk _
  have hval : ∀ (j : Nat) t v, Try.f9.params[j]? = some t → args[j]? = some v → Value.okWide Try.prog W .any base t v := hval0
  have hW' := hW
  obtain ⟨p, q, hA0, hV, rfl, hfz, hnd⟩ := hW
  have hA : DataW.TrodAll enc Try.prog W 0 (fun _ => true) true Try.f9.params.toList args.toList ds p := hA0
  rw [Try.params9] at hA hval
  obtain ⟨v0, vs0, d0, ds0, p0, q0, hargs, rfl, rfl, h0, r0⟩ := trodAll_cons hA
  obtain ⟨v1, vs1, d1, ds1, p1, q1, rfl, rfl, rfl, h1, r1⟩ := trodAll_cons r0
  obtain ⟨rfl, rfl, rfl⟩ := trodAll_nil r1
  obtain rfl : args = #[v0, v1] := by cases args; simp_all
  obtain ⟨rfl, rfl⟩ := trodVars_none hV
  obtain ⟨A0, len0, cap0, rfl⟩ := okWide_slice Try.underlying31 (hval 0 31 v0 rfl rfl)
  have k0 := h0
  have lt0 : ∀ x ∈ p0, x.block < W.heap.size := by obtain ⟨m, hm⟩ := k0; exact DataW.trod_lt m _ _ _ hm
  obtain ⟨ks0, rfl, hr0, hl0⟩ : ∃ ks : List Ky, len0 = ks.length ∧ RdK W A0 ks ∧ ks.length ≤ 9223372036854775807 := by
    obtain ⟨fuel, hf⟩ := h0
    exact keys_open hf
  obtain ⟨a1, len1, cap1, rfl⟩ := okWide_slice Try.underlying26 (hval 1 26 v1 rfl rfl)
  have k1 := h1
  have lt1 : ∀ x ∈ p1, x.block < W.heap.size := by obtain ⟨m, hm⟩ := k1; exact DataW.trod_lt m _ _ _ hm
  obtain ⟨z1, w1⟩ : ∃ zs, IsRow .u8 W a1 len1 cap1 zs := by
    obtain ⟨fuel, hf⟩ := h1
    rcases open_ints Try.underlying26 Try.underlying5 (by kernel_rfl) hf with ⟨hcs, _⟩ | ⟨x, l, c, zs, hcs, _, hl, hm, hz, _, hcell, hwz⟩
    · simp [Value.cells] at hcs
      obtain ⟨rfl, rfl, rfl⟩ := hcs
      exact ⟨[], .inl ⟨rfl, rfl, rfl, rfl⟩⟩
    · simp [Value.cells] at hcs
      obtain ⟨rfl, rfl, rfl⟩ := hcs
      exact ⟨zs, .inr ⟨_, rfl, hl, hm, by simpa using hz, hcell, hwz⟩⟩
  have hs1 : len1 ≤ 1048576 := by
    obtain ⟨fuel, hf⟩ := k1
    exact ints_bulk Try.underlying26 Try.underlying5 (by kernel_rfl) hf hkk (j := 1) rfl
  obtain ⟨hq1, hm1⟩ := row_caps w1
  obtain ⟨b1, rfl, hr1, hl1, hw1⟩ := rd_of_row w1
  clear hA0 hval0
  refine (stripeOne_any A0 cap0 ks0 a1 cap1 b1 W hr0 hl0 hr1 (wfu8 hw1) hs1).mono fun e W' ⟨he, bel⟩ => ?_
  subst he
  exact ⟨_, rfl, _, _, _, [], _, [], hW', trodAll_mk1 (shut_bool Try.underlying4 _), (trodAll_cons_mk (Below.trod laidOut (by kernel_rfl) (of_decide_eq_true (by kernel_rfl)) k0 bel lt0) (trodAll_cons_mk (Below.trod laidOut (by kernel_rfl) (of_decide_eq_true (by kernel_rfl)) k1 bel lt1) trodAll_mk0)), rfl, bel.frame _, fun h => by cases h⟩
theorem over : Rows.stripeOneUptoRow.holds Try.pinned (Rows.OpenSpec.upto Rows.stripeOneSpec) :=
  OpenClaim.holds_of_cond 9 Try.f9 rfl rfl rfl rfl rfl rfl rfl ⟨rfl, rfl, rfl, rfl, rfl⟩ rfl rfl rfl rfl rfl (by kernel_rfl) Try.func9 (by kernel_rfl)
    (of_decide_eq_true (by kernel_rfl)) (by unfold Func.isWrapper; first | (rw [if_pos (by decide +kernel)]; kernel_rfl) | (rw [if_neg (by decide +kernel)]; exact ⟨rfl, rfl⟩))
    (fun os started H enc _ F => lifted os started H enc F)
theorem proved : Rows.StripeOneUptoSaid := over
#print axioms proved
end Go.Proofs.Ytnbghgenaolfgaa.stripeOne
namespace Go.Proofs.Ytnbghgenaolfgaa
theorem stripeOneUpto_holds : Rows.StripeOneUptoSaid := stripeOne.proved
end Go.Proofs.Ytnbghgenaolfgaa


/- Layer 19: the second and the third step of barcode.Encode. No condition. -/
import Derived.Test.YtiogogbkgekkdaaEnc1
namespace Go.Proofs.Ytiogogbkgekkdaa
open Go.RowKit
set_option linter.unusedVariables false
set_option maxRecDepth 100000
set_option linter.unusedSimpArgs false

theorem OwnF.above {base : Nat} {w w' : World} {v : Value} {L : List Fv} (h : OwnF base w v L) (hs : w'.heap.size = w.heap.size) (K : ∀ b, base ≤ b → w'.heap[b]? = w.heap[b]?) : OwnF base w' v L := by
  obtain ⟨⟨h1, h2⟩, h3⟩ := h
  refine ⟨⟨h1, h2.imp id fun ⟨k, cap, cur, e1, e2, e3, e4⟩ => ⟨k, cap, cur, e1, e2, (K k e2).trans e3, e4⟩⟩, fun x hx => ?_⟩
  obtain ⟨k1, k2, k3, k4, k5⟩ := h3 x hx
  refine ⟨k1, k2, ?_, k4, k5⟩
  rcases k3 with k3 | ⟨ad, e, hlt, hc⟩
  · exact .inl k3
  · rcases k5 with k5 | k5
    · exact .inl k5
    · exact .inr ⟨ad, e, by rw [hs]; exact hlt, fun j hj => (World.cell?_of_block (K (ad.add j).block (by rw [add_block]; exact (k5 ad e).1))).trans (hc j hj)⟩
theorem EncM.setK {L R F K B G : Nat} {gcs : Array Value} {lv fv bvv : Value} {rcs kcs : Array Value} {W : World} (h : EncM L R F K B G gcs lv rcs fv kcs bvv W) (ho : L < R ∧ R < F ∧ F < K ∧ K < B ∧ B < G) (cs : Array Value) : EncM L R F K B G gcs lv rcs fv cs bvv (W.setRow K cs) := by
  obtain ⟨h1, h2, h3, h4, h5, h6⟩ := h
  have N : ∀ {b : Nat}, b ≠ K → (W.setRow K cs).heap[b]? = W.heap[b]? := fun h => setRow_other W K _ cs h
  exact ⟨(N (by omega)).trans h1, (N (by omega)).trans h2, (N (by omega)).trans h3, setRow_heap _ _ _ _ _ _ h4, (N (by omega)).trans h5, (N (by omega)).trans h6⟩
def keyC (r : Option Ky) (B : Option Addr) (c : Nat) : Array Value := match r with
  | some k => #[.int .i64 k.id, .slice B k.sec.length c, .int .i64 k.fr, .int .i64 k.til]
  | none => #[.int .i64 0, .slice none 0 0, .int .i64 0, .int .i64 0]
theorem keyV_eq (r : Option Ky) (B : Option Addr) (c : Nat) : keyV r B c = .agg (keyC r B c) := by cases r <;> rfl
theorem keyC_size (r : Option Ky) (B : Option Addr) (c : Nat) : (keyC r B c).size = 4 := by cases r <;> rfl
theorem keyC_one (r : Option Ky) (B : Option Addr) (c : Nat) : (keyC r B c).all (·.oneCell') = true := by cases r <;> simp [keyC, Value.oneCell']

set_option maxHeartbeats 8000000 in
set_option maxRecDepth 100000 in
theorem enc2_any (L R F K B G : Nat) (gcs : Array Value) (ho : L < R ∧ R < F ∧ F < K ∧ K < B ∧ B < G) (A : Option Addr) (c : Nat) (ks : List Ky) (a0 a1 a2 a3 a4 a5 a6 a7 a8 a9 a10 a11 a12 a13 a14 : Int) (fv : Value) (Lf : List Fv) (kcs : Array Value) (hk4 : kcs.size = 4) (bvv : Value) (w0 W : World) (hr : RdK w0 A ks) (hl : ks.length ≤ 9223372036854775807) (hb0 : Below w0.heap.size w0 W) (hL0 : w0.heap.size ≤ L)
    (hM : EncM L R F K B G gcs (.slice A ks.length c) #[.int .i64 a0, .int .i64 a1, .int .i64 a2, .int .i64 a3, .int .i64 a4, .int .i64 a5, .int .i64 a6, .int .i64 a7, .int .i64 a8, .int .i64 a9, .int .i64 a10, .int .i64 a11, .int .i64 a12, .int .i64 a13, .int .i64 a14] fv kcs bvv W) (hO : OwnF (B + 1) W fv Lf) :
    Calls Try.prog 48 #[.pointer (some ⟨L, 0, none⟩), .pointer (some ⟨R, 0, none⟩), .pointer (some ⟨K, 0, none⟩)] W fun e W' => ∃ (Bk : Option Addr) (ck : Nat), e = .returned (.int .i64 (findE ks a11).2) ∧
      (∀ k, (findE ks a11).1 = some k → k.sec.length ≤ ck ∧ ck ≤ 9223372036854775807 ∧ RdI w0 .u8 Bk k.sec ∧ (∀ x ∈ k.sec, 0 ≤ x ∧ x < 256) ∧ rightB k = true ∧ k.id = a11) ∧
      EncM L R F K B G gcs (.slice A ks.length c) #[.int .i64 a0, .int .i64 a1, .int .i64 a2, .int .i64 a3, .int .i64 a4, .int .i64 a5, .int .i64 a6, .int .i64 a7, .int .i64 a8, .int .i64 a9, .int .i64 a10, .int .i64 a11, .int .i64 a12, .int .i64 a13, .int .i64 a14] fv (keyC (findE ks a11).1 Bk ck) bvv W' ∧ OwnF (B + 1) W' fv Lf ∧ Below w0.heap.size w0 W' := by
  have hF := fun W hW => ringFind_any A c ks a11 w0 W hr hW hl
  have hc1 := hM.1.cell
  have hcR := cell_of_row W R 11 _ _ _ hM.2.1
  have HM := Lib.hid hM
  clear hM
  go_enter Try.func48, Try.ntmps48
  go_wp2_with (first | (go_at_call 49; (with_reducible refine (hF _ hb0).mono ?_); rintro e w2 ⟨⟨Bk, ck, rfl, hkk⟩, hb2⟩; rw [keyV_eq]; have hM2 := HM.out.below hb2; have hKr := hM2.2.2.2.1; have HM2 := Lib.hid hM2; have HO := Lib.hid (hO.below hb2); have HB2 := Lib.hid (bT hb0 hb2); have HK := Lib.hid hkk; clear hM2 hkk hb2) | (refine wpList_store_row rfl 26 _ _ rfl K (keyC (findE ks a11).1 Bk ck) rfl rfl 26 _ hKr ?_ ?_ ?_ ?_; (focus (rw [keyC_size]; exact infoK)); (focus (rw [keyC_size, hk4])); (focus (exact keyC_one _ _ _))))
  go_ret
  exact ⟨Bk, ck, rfl, HK.out, HM2.out.setK ho _, HO.out.above (setRow_size _ _ _) (fun b hb => setRow_other _ _ _ _ (by omega)), setRow_below HB2.out (by omega)⟩

set_option maxHeartbeats 8000000 in
set_option maxRecDepth 100000 in
theorem enc3_any (L R F K B G : Nat) (gcs : Array Value) (ho : L < R ∧ R < F ∧ F < K ∧ K < B ∧ B < G) (lv : Value) (rcs : Array Value) (fv : Value) (Lf : List Fv) (kcs : Array Value) (w0 W : World) (hb0 : Below w0.heap.size w0 W) (hL0 : w0.heap.size ≤ L)
    (hM : EncM L R F K B G gcs lv rcs fv kcs (.slice none 0 0) W) (hO : OwnF (B + 1) W fv Lf) :
    Calls Try.prog 50 #[.pointer (some ⟨F, 0, none⟩), .pointer (some ⟨B, 0, none⟩)] W fun e W' => ∃ (v : Value), e = .returned (.int .i64 (putE17 (Lf.map (·.f))).2) ∧
      EncM L R F K B G gcs lv rcs fv kcs v W' ∧ W'.ownsRow (B + 1) 5 1 v (putE17 (Lf.map (·.f))).1.length ((putE17 (Lf.map (·.f))).1.map (.int .u8)) ∧ Below w0.heap.size w0 W' := by
  obtain ⟨A, c, rfl, hlc, hc9, hR⟩ := hO.rdF
  have hP := fun W hW => tlvPut_any A c (Lf.map (·.f)) W hW (by rw [List.length_map]; omega)
  obtain ⟨rv, hrv⟩ : ∃ rv, putE17 (Lf.map (·.f)) = rv := ⟨_, rfl⟩
  rw [List.length_map, hrv] at hP
  rw [hrv]
  have hcF := hM.2.2.1.cell
  have hlB := hM.2.2.2.2.1.lt
  have HM := Lib.hid hM
  clear hM hrv
  go_enter Try.func50, Try.ntmps50
  go_wp2_with (go_at_call 51; (with_reducible refine (hP _ hR).mono ?_); rintro e w2 ⟨v, rfl, ho2, hb2⟩; obtain ⟨Av, cv, rfl, _, _⟩ := own_slice ho2; have hM2 := HM.out.below hb2; have hcB := hM2.2.2.2.2.1.cell; have hfB := hM2.2.2.2.2.1.frozen; have HM2 := Lib.hid hM2; have HB2 := Lib.hid (bT hb0 hb2); have HO2 := Lib.hid (own_base ho2 (Nat.succ_le_of_lt hlB)); clear hM2 hb2 ho2)
  go_ret
  refine ⟨_, rfl, HM2.out.setB ho _, ?_, HB2.out.setCell (p := ⟨B, 0, none⟩) (show w0.heap.size ≤ B by omega) _⟩
  obtain ⟨h1, h2⟩ := HO2.out
  exact ⟨h1, h2.imp id fun ⟨k, cap, cur, e1, e2, e3, e4⟩ => ⟨k, cap, cur, e1, e2, (Below.heap_setCell _ _ _ k (by show k ≠ B; omega)).trans e3, e4⟩⟩
end Go.Proofs.Ytiogogbkgekkdaa

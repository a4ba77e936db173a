/- Layer 19: the three steps of barcode.Encode, each by itself. No condition. -/
import Derived.Test.YtiogogbkgekkdaaEncPure
import Derived.Test.YtiogogbkgekkdaaFieldPut
import Derived.Test.YtiogogbkgekkdaaSteps
namespace Go.Proofs.Ytiogogbkgekkdaa
open Go.RowKit
set_option linter.unusedVariables false
set_option maxRecDepth 100000
set_option linter.unusedSimpArgs false

/-- The five variables that the steps share, each in a block of its own. -/
def EncM (L R F K B G : Nat) (gcs : Array Value) (lv : Value) (rcs : Array Value) (fv : Value) (kcs : Array Value) (bvv : Value) (W : World) : Prop :=
  Boxed W L 28 lv ∧ W.heap[R]? = some (.cells rcs 35 (0, 0)) ∧ Boxed W F 62 fv ∧ W.heap[K]? = some (.cells kcs 26 (0, 0)) ∧ Boxed W B 24 bvv ∧ W.heap[G]? = some (.cells gcs 66 (0, 0))
theorem EncM.below {L R F K B G : Nat} {gcs : Array Value} {lv fv bvv : Value} {rcs kcs : Array Value} {W W' : World} (h : EncM L R F K B G gcs lv rcs fv kcs bvv W) (hb : Below W.heap.size W W') : EncM L R F K B G gcs lv rcs fv kcs bvv W' := by
  obtain ⟨h1, h2, h3, h4, h5, h6⟩ := h
  have K : ∀ {b : Nat} {o : Obj}, W.heap[b]? = some o → W'.heap[b]? = some o := fun h => (hb.block _ (Array.getElem?_eq_some_iff.1 h).1).trans h
  exact ⟨K h1, K h2, K h3, K h4, K h5, K h6⟩
theorem EncM.setF {L R F K B G : Nat} {gcs : Array Value} {lv fv bvv : Value} {rcs kcs : Array Value} {W : World} (h : EncM L R F K B G gcs lv rcs fv kcs bvv W) (ho : L < R ∧ R < F ∧ F < K ∧ K < B ∧ B < G) (v : Value) : EncM L R F K B G gcs lv rcs v kcs bvv (W.setCell ⟨F, 0, none⟩ v) := by
  obtain ⟨h1, h2, h3, h4, h5, h6⟩ := h
  have K : ∀ {b : Nat}, b ≠ F → (W.setCell ⟨F, 0, none⟩ v).heap[b]? = W.heap[b]? := fun h => Below.heap_setCell W _ v _ h
  exact ⟨(K (by omega)).trans h1, (K (by omega)).trans h2, h3.set v, (K (by omega)).trans h4, (K (by omega)).trans h5, (K (by omega)).trans h6⟩
theorem EncM.setB {L R F K B G : Nat} {gcs : Array Value} {lv fv bvv : Value} {rcs kcs : Array Value} {W : World} (h : EncM L R F K B G gcs lv rcs fv kcs bvv W) (ho : L < R ∧ R < F ∧ F < K ∧ K < B ∧ B < G) (v : Value) : EncM L R F K B G gcs lv rcs fv kcs v (W.setCell ⟨B, 0, none⟩ v) := by
  obtain ⟨h1, h2, h3, h4, h5, h6⟩ := h
  have K : ∀ {b : Nat}, b ≠ B → (W.setCell ⟨B, 0, none⟩ v).heap[b]? = W.heap[b]? := fun h => Below.heap_setCell W _ v _ h
  exact ⟨(K (by omega)).trans h1, (K (by omega)).trans h2, (K (by omega)).trans h3, (K (by omega)).trans h4, h5.set v, (K (by omega)).trans h6⟩
theorem infoR : (Try.prog.info? 35).map (·.size) = some 15 := by kernel_rfl

set_option maxHeartbeats 8000000 in
set_option maxRecDepth 100000 in
theorem enc1_any (L R F K B G : Nat) (gcs : Array Value) (ho : L < R ∧ R < F ∧ F < K ∧ K < B ∧ B < G) (A : Option Addr) (c : Nat) (ks : List Ky) (a0 a1 a2 a3 a4 a5 a6 a7 a8 a9 a10 a11 a12 a13 a14 : Int) (kcs : Array Value) (bvv : Value) (w0 W : World) (hr : RdK w0 A ks) (hl : ks.length ≤ 9223372036854775807) (hb0 : Below w0.heap.size w0 W) (hL0 : w0.heap.size ≤ L)
    (hM : EncM L R F K B G gcs (.slice A ks.length c) #[.int .i64 a0, .int .i64 a1, .int .i64 a2, .int .i64 a3, .int .i64 a4, .int .i64 a5, .int .i64 a6, .int .i64 a7, .int .i64 a8, .int .i64 a9, .int .i64 a10, .int .i64 a11, .int .i64 a12, .int .i64 a13, .int .i64 a14] (.slice none 0 0) kcs bvv W) :
    Calls Try.prog 45 #[.pointer (some ⟨L, 0, none⟩), .pointer (some ⟨R, 0, none⟩), .pointer (some ⟨F, 0, none⟩)] W fun e W' => ∃ (v : Value) (Lf : List Fv), e = .returned (.int .i64 (encF ks [a0, a1, a2, a3, a4, a5, a6, a7, a8, a9, a10, a11, a12, a13, a14]).2) ∧ Lf.map (·.f) = (encF ks [a0, a1, a2, a3, a4, a5, a6, a7, a8, a9, a10, a11, a12, a13, a14]).1 ∧
      EncM L R F K B G gcs (.slice A ks.length c) #[.int .i64 a0, .int .i64 a1, .int .i64 a2, .int .i64 a3, .int .i64 a4, .int .i64 a5, .int .i64 a6, .int .i64 a7, .int .i64 a8, .int .i64 a9, .int .i64 a10, .int .i64 a11, .int .i64 a12, .int .i64 a13, .int .i64 a14] v kcs bvv W' ∧ OwnF (B + 1) W' v Lf ∧ Below w0.heap.size w0 W' := by
  have hI := ringIs_any A c ks W (hr.below hb0 (Nat.le_refl _)) hl
  have hc1 := hM.1.cell
  have HM := Lib.hid hM
  cases hz : ringB ks with
  | false =>
    have E := Lib.hid (show encF ks [a0, a1, a2, a3, a4, a5, a6, a7, a8, a9, a10, a11, a12, a13, a14] = ([], 1) by unfold encF; rw [hz]; rfl)
    rw [hz] at hI
    clear hM
    go_enter Try.func45, Try.ntmps45
    go_wp2_with (go_at_call 46; (with_reducible refine hI.mono ?_); rintro e w1 ⟨rfl, hb1⟩)
    go_ret
    exact ⟨_, [], by rw [E.out] <;> rfl, by rw [E.out] <;> rfl, HM.out.below hb1, OwnF.nil _ _, bT hb0 hb1⟩
  | true =>
    have E := Lib.hid (show encF ks [a0, a1, a2, a3, a4, a5, a6, a7, a8, a9, a10, a11, a12, a13, a14] = fpE [a0, a1, a2, a3, a4, a5, a6, a7, a8, a9, a10, a11, a12, a13, a14] by unfold encF; rw [hz]; rfl)
    rw [hz] at hI
    clear hM
    obtain ⟨rv, hrv⟩ : ∃ rv, fpE [a0, a1, a2, a3, a4, a5, a6, a7, a8, a9, a10, a11, a12, a13, a14] = rv := ⟨_, rfl⟩
    have hP := fun W => fieldsPut_any a0 a1 a2 a3 a4 a5 a6 a7 a8 a9 a10 a11 a12 a13 a14 W
    rw [hrv] at hP E
    clear hrv
    go_enter Try.func45, Try.ntmps45
    go_wp2_with (first | (go_at_call 46; (with_reducible refine hI.mono ?_); rintro e w1 ⟨rfl, hb1⟩; have hM1 := HM.out.below hb1; have hR1 := hM1.2.1; have HB1 := Lib.hid (bT hb0 hb1); have HM1 := Lib.hid hM1; clear hM1 hb1) | (refine wpList_load_row rfl 35 (.tmp 1) rfl R rfl 35 #[.int .i64 a0, .int .i64 a1, .int .i64 a2, .int .i64 a3, .int .i64 a4, .int .i64 a5, .int .i64 a6, .int .i64 a7, .int .i64 a8, .int .i64 a9, .int .i64 a10, .int .i64 a11, .int .i64 a12, .int .i64 a13, .int .i64 a14] (0, 0) _ hR1 Try.underlying35 rfl ?_ ?_; (focus (exact infoR))) | (go_at_call 47; (with_reducible refine (hP _).mono ?_); rintro e w2 ⟨v, Lf, rfl, hLf, hO, hb2⟩; obtain ⟨Av, cv, rfl, _, _, _⟩ := hO.rdF; have hM2 := HM1.out.below hb2; have hcF := hM2.2.2.1.cell; have hfF := hM2.2.2.1.frozen; have HM2 := Lib.hid hM2; have HB2 := Lib.hid (bT HB1.out hb2); have HO := Lib.hid (hO.mono (Nat.succ_le_of_lt HM1.out.2.2.2.2.1.lt)); clear hM2 hO hb2))
    go_ret
    exact ⟨_, Lf, by rw [E.out] <;> rfl, by rw [E.out]; exact hLf, HM2.out.setF ho _, HO.out.set (by omega), HB2.out.setCell (p := ⟨F, 0, none⟩) (show w0.heap.size ≤ F by omega) _⟩
end Go.Proofs.Ytiogogbkgekkdaa

/- Layer 19: steps one behind the other, till one has an error: three function values, whatever they do. Layer 19: the three steps of barcode.Encode, each by itself. Layer 19: the second and the third step of barcode.Encode. No condition. -/
import Derived.Test.YtachkhjbckapoaaT00
import Derived.Test.YtachkhjbckapoaaT05
import Derived.Test.YtachkhjbckapoaaT28
import Derived.Test.YtachkhjbckapoaaT31
namespace Go.Proofs.Ytachkhjbckapoaa
open Go.RowKit
set_option linter.unusedVariables false
set_option maxRecDepth 100000
set_option linter.unusedSimpArgs false

/-- What a step returns: an error's number; where it is 0, what follows holds. -/
def StepRet (Q : World → Prop) (X : Int → World → Prop) (e : Ending) (w' : World) : Prop := ∃ z : Int, e = .returned (.int .i64 z) ∧ (z = 0 → Q w') ∧ (z ≠ 0 → X z w')
set_option maxHeartbeats 4000000 in
theorem steps_any (G n1 n2 n3 : Nat) (c1 c2 c3 : Array Value) (P : Nat → World → Prop) (X : Int → World → Prop) (w : World) (h0 : P 0 w)
    (hG : ∀ k W, P k W → W.cell? ⟨G, 0, none⟩ = some (.func (.func n1) #[] c1) ∧ W.cell? ⟨G, 1, none⟩ = some (.func (.func n2) #[] c2) ∧ W.cell? ⟨G, 2, none⟩ = some (.func (.func n3) #[] c3))
    (e1 : ∀ W, Sem.run Try.prog (callFunc n1 c1) W = .ok (.enter n1 c1) W) (e2 : ∀ W, Sem.run Try.prog (callFunc n2 c2) W = .ok (.enter n2 c2) W) (e3 : ∀ W, Sem.run Try.prog (callFunc n3 c3) W = .ok (.enter n3 c3) W)
    (h1 : ∀ W, P 0 W → Calls Try.prog n1 c1 W (StepRet (P 1) X)) (h2 : ∀ W, P 1 W → Calls Try.prog n2 c2 W (StepRet (P 2) X)) (h3 : ∀ W, P 2 W → Calls Try.prog n3 c3 W (StepRet (P 3) X)) :
    Calls Try.prog 26 #[.slice (some ⟨G, 0, none⟩) 3 3] w (StepRet (P 3) X) := by
  go_enter Try.func26, Try.ntmps26
  go_wp2
  go_loopw [4, 5, 8] (fun _ _ i wr => ∃ k : Nat, k ≤ 3 ∧ i = .int .i64 k ∧ P k wr) (fun _ _ i _ => 3 - (intOf i).toNat)
  case atStart => exact ⟨0, by omega, rfl, h0⟩
  case round =>
    obtain ⟨k, hk, rfl, hP⟩ := hrel
    obtain ⟨g0, g1, g2⟩ := hG k wr hP
    have : k = 0 ∨ k = 1 ∨ k = 2 ∨ k = 3 := by omega
    rcases this with rfl | rfl | rfl | rfl
    · have D := h1 _ hP
      go_wp2_with ((with_reducible refine D.mono ?_); rintro e W3 ⟨z, rfl, hz0, hz1⟩; have HZ0 := Lib.hid hz0; have HZ1 := Lib.hid hz1; clear hz0 hz1)
      · rename_i hz
        have hz' : z ≠ 0 := by simpa using hz
        go_ret
        exact ⟨z, rfl, fun h => absurd h hz', fun h => HZ1.out h⟩
      · rename_i hz
        exact ⟨⟨1, by omega, rfl, HZ0.out (by simpa using hz)⟩, by simp [intOf]⟩
    · have D := h2 _ hP
      go_wp2_with ((with_reducible refine D.mono ?_); rintro e W3 ⟨z, rfl, hz0, hz1⟩; have HZ0 := Lib.hid hz0; have HZ1 := Lib.hid hz1; clear hz0 hz1)
      · rename_i hz
        have hz' : z ≠ 0 := by simpa using hz
        go_ret
        exact ⟨z, rfl, fun h => absurd h hz', fun h => HZ1.out h⟩
      · rename_i hz
        exact ⟨⟨2, by omega, rfl, HZ0.out (by simpa using hz)⟩, by simp [intOf]⟩
    · have D := h3 _ hP
      go_wp2_with ((with_reducible refine D.mono ?_); rintro e W3 ⟨z, rfl, hz0, hz1⟩; have HZ0 := Lib.hid hz0; have HZ1 := Lib.hid hz1; clear hz0 hz1)
      · rename_i hz
        have hz' : z ≠ 0 := by simpa using hz
        go_ret
        exact ⟨z, rfl, fun h => absurd h hz', fun h => HZ1.out h⟩
      · rename_i hz
        exact ⟨⟨3, by omega, rfl, HZ0.out (by simpa using hz)⟩, by simp [intOf]⟩
    · go_wp2
      go_ret
      exact ⟨0, rfl, fun _ => hP, fun h => absurd rfl h⟩
end Go.Proofs.Ytachkhjbckapoaa

namespace Go.Proofs.Ytachkhjbckapoaa
open Go.RowKit
set_option linter.unusedVariables false
set_option maxRecDepth 100000
set_option linter.unusedSimpArgs false

/-- The five variables that the steps share, each in a block of its own. -/
def EncM (L R F K B G : Nat) (gcs : Array Value) (lv : Value) (rcs : Array Value) (fv : Value) (kcs : Array Value) (bvv : Value) (W : World) : Prop :=
  Boxed W L 22 lv ∧ W.heap[R]? = some (.cells rcs 28 (0, 0)) ∧ Boxed W F 50 fv ∧ W.heap[K]? = some (.cells kcs 49 (0, 0)) ∧ Boxed W B 30 bvv ∧ W.heap[G]? = some (.cells gcs 54 (0, 0))
theorem EncM.below {L R F K B G : Nat} {gcs : Array Value} {lv fv bvv : Value} {rcs kcs : Array Value} {W W' : World} (h : EncM L R F K B G gcs lv rcs fv kcs bvv W) (hb : Below W.heap.size W W') : EncM L R F K B G gcs lv rcs fv kcs bvv W' := by
  obtain ⟨h1, h2, h3, h4, h5, h6⟩ := h
  have K : ∀ {b : Nat} {o : Obj}, W.heap[b]? = some o → W'.heap[b]? = some o := fun h => (hb.block _ (Array.getElem?_eq_some_iff.1 h).1).trans h
  exact ⟨K h1, K h2, K h3, K h4, K h5, K h6⟩
theorem EncM.setF {L R F K B G : Nat} {gcs : Array Value} {lv fv bvv : Value} {rcs kcs : Array Value} {W : World} (h : EncM L R F K B G gcs lv rcs fv kcs bvv W) (ho : L < R ∧ R < F ∧ F < K ∧ K < B ∧ B < G) (v : Value) : EncM L R F K B G gcs lv rcs v kcs bvv (W.setCell ⟨F, 0, none⟩ v) := by
  obtain ⟨h1, h2, h3, h4, h5, h6⟩ := h
  have K : ∀ {b : Nat}, b ≠ F → (W.setCell ⟨F, 0, none⟩ v).heap[b]? = W.heap[b]? := fun h => Below.heap_setCell W _ v _ h
  exact ⟨(K (by omega)).trans h1, (K (by omega)).trans h2, h3.set v, (K (by omega)).trans h4, (K (by omega)).trans h5, (K (by omega)).trans h6⟩
theorem EncM.setB {L R F K B G : Nat} {gcs : Array Value} {lv fv bvv : Value} {rcs kcs : Array Value} {W : World} (h : EncM L R F K B G gcs lv rcs fv kcs bvv W) (ho : L < R ∧ R < F ∧ F < K ∧ K < B ∧ B < G) (v : Value) : EncM L R F K B G gcs lv rcs fv kcs v (W.setCell ⟨B, 0, none⟩ v) := by
  obtain ⟨h1, h2, h3, h4, h5, h6⟩ := h
  have K : ∀ {b : Nat}, b ≠ B → (W.setCell ⟨B, 0, none⟩ v).heap[b]? = W.heap[b]? := fun h => Below.heap_setCell W _ v _ h
  exact ⟨(K (by omega)).trans h1, (K (by omega)).trans h2, (K (by omega)).trans h3, (K (by omega)).trans h4, h5.set v, (K (by omega)).trans h6⟩
theorem infoR : (Try.prog.info? 28).map (·.size) = some 15 := by kernel_rfl

set_option maxHeartbeats 8000000 in
set_option maxRecDepth 100000 in
theorem enc1_any (L R F K B G : Nat) (gcs : Array Value) (ho : L < R ∧ R < F ∧ F < K ∧ K < B ∧ B < G) (A : Option Addr) (c : Nat) (ks : List Ky) (a0 a1 a2 a3 a4 a5 a6 a7 a8 a9 a10 a11 a12 a13 a14 : Int) (kcs : Array Value) (bvv : Value) (w0 W : World) (hr : RdK w0 A ks) (hl : ks.length ≤ 9223372036854775807) (hb0 : Below w0.heap.size w0 W) (hL0 : w0.heap.size ≤ L)
    (hM : EncM L R F K B G gcs (.slice A ks.length c) #[.int .i64 a0, .int .i64 a1, .int .i64 a2, .int .i64 a3, .int .i64 a4, .int .i64 a5, .int .i64 a6, .int .i64 a7, .int .i64 a8, .int .i64 a9, .int .i64 a10, .int .i64 a11, .int .i64 a12, .int .i64 a13, .int .i64 a14] (.slice none 0 0) kcs bvv W) :
    Calls Try.prog 27 #[.pointer (some ⟨L, 0, none⟩), .pointer (some ⟨R, 0, none⟩), .pointer (some ⟨F, 0, none⟩)] W fun e W' => ∃ (v : Value) (Lf : List Fv), e = .returned (.int .i64 (encF ks [a0, a1, a2, a3, a4, a5, a6, a7, a8, a9, a10, a11, a12, a13, a14]).2) ∧ Lf.map (·.f) = (encF ks [a0, a1, a2, a3, a4, a5, a6, a7, a8, a9, a10, a11, a12, a13, a14]).1 ∧
      EncM L R F K B G gcs (.slice A ks.length c) #[.int .i64 a0, .int .i64 a1, .int .i64 a2, .int .i64 a3, .int .i64 a4, .int .i64 a5, .int .i64 a6, .int .i64 a7, .int .i64 a8, .int .i64 a9, .int .i64 a10, .int .i64 a11, .int .i64 a12, .int .i64 a13, .int .i64 a14] v kcs bvv W' ∧ OwnF (B + 1) W' v Lf ∧ Below w0.heap.size w0 W' := by
  have hI := ringIs_any A c ks W (hr.below hb0 (Nat.le_refl _)) hl
  have hc1 := hM.1.cell
  have HM := Lib.hid hM
  cases hz : ringB ks with
  | false =>
    have E := Lib.hid (show encF ks [a0, a1, a2, a3, a4, a5, a6, a7, a8, a9, a10, a11, a12, a13, a14] = ([], 1) by unfold encF; rw [hz]; rfl)
    rw [hz] at hI
    clear hM
    go_enter Try.func27, Try.ntmps27
    go_wp2_with (go_at_call 28; (with_reducible refine hI.mono ?_); rintro e w1 ⟨rfl, hb1⟩)
    go_ret
    exact ⟨_, [], by rw [E.out] <;> rfl, by rw [E.out] <;> rfl, HM.out.below hb1, OwnF.nil _ _, bT hb0 hb1⟩
  | true =>
    have E := Lib.hid (show encF ks [a0, a1, a2, a3, a4, a5, a6, a7, a8, a9, a10, a11, a12, a13, a14] = fpE [a0, a1, a2, a3, a4, a5, a6, a7, a8, a9, a10, a11, a12, a13, a14] by unfold encF; rw [hz]; rfl)
    rw [hz] at hI
    clear hM
    obtain ⟨rv, hrv⟩ : ∃ rv, fpE [a0, a1, a2, a3, a4, a5, a6, a7, a8, a9, a10, a11, a12, a13, a14] = rv := ⟨_, rfl⟩
    have hP := fun W => fieldsPut_any a0 a1 a2 a3 a4 a5 a6 a7 a8 a9 a10 a11 a12 a13 a14 W
    rw [hrv] at hP E
    clear hrv
    go_enter Try.func27, Try.ntmps27
    go_wp2_with (first | (go_at_call 28; (with_reducible refine hI.mono ?_); rintro e w1 ⟨rfl, hb1⟩; have hM1 := HM.out.below hb1; have hR1 := hM1.2.1; have HB1 := Lib.hid (bT hb0 hb1); have HM1 := Lib.hid hM1; clear hM1 hb1) | (refine wpList_load_row rfl 28 (.tmp 1) rfl R rfl 28 #[.int .i64 a0, .int .i64 a1, .int .i64 a2, .int .i64 a3, .int .i64 a4, .int .i64 a5, .int .i64 a6, .int .i64 a7, .int .i64 a8, .int .i64 a9, .int .i64 a10, .int .i64 a11, .int .i64 a12, .int .i64 a13, .int .i64 a14] (0, 0) _ hR1 Try.underlying28 rfl ?_ ?_; (focus (exact infoR))) | (go_at_call 29; (with_reducible refine (hP _).mono ?_); rintro e w2 ⟨v, Lf, rfl, hLf, hO, hb2⟩; obtain ⟨Av, cv, rfl, _, _, _⟩ := hO.rdF; have hM2 := HM1.out.below hb2; have hcF := hM2.2.2.1.cell; have hfF := hM2.2.2.1.frozen; have HM2 := Lib.hid hM2; have HB2 := Lib.hid (bT HB1.out hb2); have HO := Lib.hid (hO.mono (Nat.succ_le_of_lt HM1.out.2.2.2.2.1.lt)); clear hM2 hO hb2))
    go_ret
    exact ⟨_, Lf, by rw [E.out] <;> rfl, by rw [E.out]; exact hLf, HM2.out.setF ho _, HO.out.set (by omega), HB2.out.setCell (p := ⟨F, 0, none⟩) (show w0.heap.size ≤ F by omega) _⟩
end Go.Proofs.Ytachkhjbckapoaa

namespace Go.Proofs.Ytachkhjbckapoaa
open Go.RowKit
set_option linter.unusedVariables false
set_option maxRecDepth 100000
set_option linter.unusedSimpArgs false

theorem OwnF.above {base : Nat} {w w' : World} {v : Value} {L : List Fv} (h : OwnF base w v L) (hs : w'.heap.size = w.heap.size) (K : ∀ b, base ≤ b → w'.heap[b]? = w.heap[b]?) : OwnF base w' v L := by
  obtain ⟨⟨h1, h2⟩, h3⟩ := h
  refine ⟨⟨h1, h2.imp id fun ⟨k, cap, cur, e1, e2, e3, e4⟩ => ⟨k, cap, cur, e1, e2, (K k e2).trans e3, e4⟩⟩, fun x hx => ?_⟩
  obtain ⟨k1, k2, k3, k4, k5⟩ := h3 x hx
  refine ⟨k1, k2, ?_, k4, k5⟩
  rcases k3 with k3 | ⟨ad, e, hlt, hc⟩
  · exact .inl k3
  · rcases k5 with k5 | k5
    · exact .inl k5
    · exact .inr ⟨ad, e, by rw [hs]; exact hlt, fun j hj => (World.cell?_of_block (K (ad.add j).block (by rw [add_block]; exact (k5 ad e).1))).trans (hc j hj)⟩
theorem EncM.setK {L R F K B G : Nat} {gcs : Array Value} {lv fv bvv : Value} {rcs kcs : Array Value} {W : World} (h : EncM L R F K B G gcs lv rcs fv kcs bvv W) (ho : L < R ∧ R < F ∧ F < K ∧ K < B ∧ B < G) (cs : Array Value) : EncM L R F K B G gcs lv rcs fv cs bvv (W.setRow K cs) := by
  obtain ⟨h1, h2, h3, h4, h5, h6⟩ := h
  have N : ∀ {b : Nat}, b ≠ K → (W.setRow K cs).heap[b]? = W.heap[b]? := fun h => setRow_other W K _ cs h
  exact ⟨(N (by omega)).trans h1, (N (by omega)).trans h2, (N (by omega)).trans h3, setRow_heap _ _ _ _ _ _ h4, (N (by omega)).trans h5, (N (by omega)).trans h6⟩
def keyC (r : Option Ky) (B : Option Addr) (c : Nat) : Array Value := match r with
  | some k => #[.int .i64 k.id, .slice B k.sec.length c, .int .i64 k.fr, .int .i64 k.til]
  | none => #[.int .i64 0, .slice none 0 0, .int .i64 0, .int .i64 0]
theorem keyV_eq (r : Option Ky) (B : Option Addr) (c : Nat) : keyV r B c = .agg (keyC r B c) := by cases r <;> rfl
theorem keyC_size (r : Option Ky) (B : Option Addr) (c : Nat) : (keyC r B c).size = 4 := by cases r <;> rfl
theorem keyC_one (r : Option Ky) (B : Option Addr) (c : Nat) : (keyC r B c).all (·.oneCell') = true := by cases r <;> simp [keyC, Value.oneCell']

set_option maxHeartbeats 8000000 in
set_option maxRecDepth 100000 in
theorem enc2_any (L R F K B G : Nat) (gcs : Array Value) (ho : L < R ∧ R < F ∧ F < K ∧ K < B ∧ B < G) (A : Option Addr) (c : Nat) (ks : List Ky) (a0 a1 a2 a3 a4 a5 a6 a7 a8 a9 a10 a11 a12 a13 a14 : Int) (fv : Value) (Lf : List Fv) (kcs : Array Value) (hk4 : kcs.size = 4) (bvv : Value) (w0 W : World) (hr : RdK w0 A ks) (hl : ks.length ≤ 9223372036854775807) (hb0 : Below w0.heap.size w0 W) (hL0 : w0.heap.size ≤ L)
    (hM : EncM L R F K B G gcs (.slice A ks.length c) #[.int .i64 a0, .int .i64 a1, .int .i64 a2, .int .i64 a3, .int .i64 a4, .int .i64 a5, .int .i64 a6, .int .i64 a7, .int .i64 a8, .int .i64 a9, .int .i64 a10, .int .i64 a11, .int .i64 a12, .int .i64 a13, .int .i64 a14] fv kcs bvv W) (hO : OwnF (B + 1) W fv Lf) :
    Calls Try.prog 30 #[.pointer (some ⟨L, 0, none⟩), .pointer (some ⟨R, 0, none⟩), .pointer (some ⟨K, 0, none⟩)] W fun e W' => ∃ (Bk : Option Addr) (ck : Nat), e = .returned (.int .i64 (findE ks a11).2) ∧
      (∀ k, (findE ks a11).1 = some k → k.sec.length ≤ ck ∧ ck ≤ 9223372036854775807 ∧ RdI w0 .u8 Bk k.sec ∧ (∀ x ∈ k.sec, 0 ≤ x ∧ x < 256) ∧ rightB k = true ∧ k.id = a11) ∧
      EncM L R F K B G gcs (.slice A ks.length c) #[.int .i64 a0, .int .i64 a1, .int .i64 a2, .int .i64 a3, .int .i64 a4, .int .i64 a5, .int .i64 a6, .int .i64 a7, .int .i64 a8, .int .i64 a9, .int .i64 a10, .int .i64 a11, .int .i64 a12, .int .i64 a13, .int .i64 a14] fv (keyC (findE ks a11).1 Bk ck) bvv W' ∧ OwnF (B + 1) W' fv Lf ∧ Below w0.heap.size w0 W' := by
  have hF := fun W hW => ringFind_any A c ks a11 w0 W hr hW hl
  have hc1 := hM.1.cell
  have hcR := cell_of_row W R 11 _ _ _ hM.2.1
  have HM := Lib.hid hM
  clear hM
  go_enter Try.func30, Try.ntmps30
  go_wp2_with (first | (go_at_call 31; (with_reducible refine (hF _ hb0).mono ?_); rintro e w2 ⟨⟨Bk, ck, rfl, hkk⟩, hb2⟩; rw [keyV_eq]; have hM2 := HM.out.below hb2; have hKr := hM2.2.2.2.1; have HM2 := Lib.hid hM2; have HO := Lib.hid (hO.below hb2); have HB2 := Lib.hid (bT hb0 hb2); have HK := Lib.hid hkk; clear hM2 hkk hb2) | (refine wpList_store_row rfl 49 _ _ rfl K (keyC (findE ks a11).1 Bk ck) rfl rfl 49 _ hKr ?_ ?_ ?_ ?_; (focus (rw [keyC_size]; exact infoK)); (focus (rw [keyC_size, hk4])); (focus (exact keyC_one _ _ _))))
  go_ret
  exact ⟨Bk, ck, rfl, HK.out, HM2.out.setK ho _, HO.out.above (setRow_size _ _ _) (fun b hb => setRow_other _ _ _ _ (by omega)), setRow_below HB2.out (by omega)⟩

set_option maxHeartbeats 8000000 in
set_option maxRecDepth 100000 in
theorem enc3_any (L R F K B G : Nat) (gcs : Array Value) (ho : L < R ∧ R < F ∧ F < K ∧ K < B ∧ B < G) (lv : Value) (rcs : Array Value) (fv : Value) (Lf : List Fv) (kcs : Array Value) (w0 W : World) (hb0 : Below w0.heap.size w0 W) (hL0 : w0.heap.size ≤ L)
    (hM : EncM L R F K B G gcs lv rcs fv kcs (.slice none 0 0) W) (hO : OwnF (B + 1) W fv Lf) :
    Calls Try.prog 32 #[.pointer (some ⟨F, 0, none⟩), .pointer (some ⟨B, 0, none⟩)] W fun e W' => ∃ (v : Value), e = .returned (.int .i64 (putE17 (Lf.map (·.f))).2) ∧
      EncM L R F K B G gcs lv rcs fv kcs v W' ∧ W'.ownsRow (B + 1) 5 1 v (putE17 (Lf.map (·.f))).1.length ((putE17 (Lf.map (·.f))).1.map (.int .u8)) ∧ Below w0.heap.size w0 W' := by
  obtain ⟨A, c, rfl, hlc, hc9, hR⟩ := hO.rdF
  have hP := fun W hW => tlvPut_any A c (Lf.map (·.f)) W hW (by rw [List.length_map]; omega)
  obtain ⟨rv, hrv⟩ : ∃ rv, putE17 (Lf.map (·.f)) = rv := ⟨_, rfl⟩
  rw [List.length_map, hrv] at hP
  rw [hrv]
  have hcF := hM.2.2.1.cell
  have hlB := hM.2.2.2.2.1.lt
  have HM := Lib.hid hM
  clear hM hrv
  go_enter Try.func32, Try.ntmps32
  go_wp2_with (go_at_call 33; (with_reducible refine (hP _ hR).mono ?_); rintro e w2 ⟨v, rfl, ho2, hb2⟩; obtain ⟨Av, cv, rfl, _, _⟩ := own_slice ho2; have hM2 := HM.out.below hb2; have hcB := hM2.2.2.2.2.1.cell; have hfB := hM2.2.2.2.2.1.frozen; have HM2 := Lib.hid hM2; have HB2 := Lib.hid (bT hb0 hb2); have HO2 := Lib.hid (own_base ho2 (Nat.succ_le_of_lt hlB)); clear hM2 hb2 ho2)
  go_ret
  refine ⟨_, rfl, HM2.out.setB ho _, ?_, HB2.out.setCell (p := ⟨B, 0, none⟩) (show w0.heap.size ≤ B by omega) _⟩
  obtain ⟨h1, h2⟩ := HO2.out
  exact ⟨h1, h2.imp id fun ⟨k, cap, cur, e1, e2, e3, e4⟩ => ⟨k, cap, cur, e1, e2, (Below.heap_setCell _ _ _ k (by show k ≠ B; omega)).trans e3, e4⟩⟩
end Go.Proofs.Ytachkhjbckapoaa

/- Layer 19: steps one behind the other, till one has an error: three function values, whatever they do. Layer 19: the three steps of barcode.Encode, each by itself. Layer 19: the second and the third step of barcode.Encode. Layer 19: what barcode.Encode computes. Layer 4: seal.Diff and seal.Same, for all bytes. Layer 19: the three steps of barcode.Decode, each by itself. No condition. -/
import Derived.Test.YtachkhjbckapoaaB00
import Derived.Test.YtachkhjbckapoaaB05
import Derived.Test.YtachkhjbckapoaaB19
import Derived.Test.YtachkhjbckapoaaB29
import Derived.Test.YtachkhjbckapoaaB17
import Derived.Test.YtachkhjbckapoaaB12
import Derived.Deep.RegionHeld3
import Derived.Test.YtachkhjbckapoaaB25
import Derived.Test.YtachkhjbckapoaaB27
namespace Go.Proofs.Ytachkhjbckapoaa
open Go.RowKit
set_option linter.unusedVariables false
set_option maxRecDepth 100000
set_option linter.unusedSimpArgs false

/-- What a step returns: an error's number; where it is 0, what follows holds. -/
def StepRet (Q : World → Prop) (X : Int → World → Prop) (e : Ending) (w' : World) : Prop := ∃ z : Int, e = .returned (.int .i64 z) ∧ (z = 0 → Q w') ∧ (z ≠ 0 → X z w')
set_option maxHeartbeats 4000000 in
theorem steps_any (G n1 n2 n3 : Nat) (c1 c2 c3 : Array Value) (P : Nat → World → Prop) (X : Int → World → Prop) (w : World) (h0 : P 0 w)
    (hG : ∀ k W, P k W → W.cell? ⟨G, 0, none⟩ = some (.func (.func n1) #[] c1) ∧ W.cell? ⟨G, 1, none⟩ = some (.func (.func n2) #[] c2) ∧ W.cell? ⟨G, 2, none⟩ = some (.func (.func n3) #[] c3))
    (e1 : ∀ W, Sem.run Try.prog (callFunc n1 c1) W = .ok (.enter n1 c1) W) (e2 : ∀ W, Sem.run Try.prog (callFunc n2 c2) W = .ok (.enter n2 c2) W) (e3 : ∀ W, Sem.run Try.prog (callFunc n3 c3) W = .ok (.enter n3 c3) W)
    (h1 : ∀ W, P 0 W → Calls Try.prog n1 c1 W (StepRet (P 1) X)) (h2 : ∀ W, P 1 W → Calls Try.prog n2 c2 W (StepRet (P 2) X)) (h3 : ∀ W, P 2 W → Calls Try.prog n3 c3 W (StepRet (P 3) X)) :
    Calls Try.prog 26 #[.slice (some ⟨G, 0, none⟩) 3 3] w (StepRet (P 3) X) := by
  go_enter Try.func26, Try.ntmps26
  go_wp2
  go_loopw [4, 5, 8] (fun _ _ i wr => ∃ k : Nat, k ≤ 3 ∧ i = .int .i64 k ∧ P k wr) (fun _ _ i _ => 3 - (intOf i).toNat)
  case atStart => exact ⟨0, by omega, rfl, h0⟩
  case round =>
    obtain ⟨k, hk, rfl, hP⟩ := hrel
    obtain ⟨g0, g1, g2⟩ := hG k wr hP
    have : k = 0 ∨ k = 1 ∨ k = 2 ∨ k = 3 := by omega
    rcases this with rfl | rfl | rfl | rfl
    · have D := h1 _ hP
      go_wp2_with ((with_reducible refine D.mono ?_); rintro e W3 ⟨z, rfl, hz0, hz1⟩; have HZ0 := Lib.hid hz0; have HZ1 := Lib.hid hz1; clear hz0 hz1)
      · rename_i hz
        have hz' : z ≠ 0 := by simpa using hz
        go_ret
        exact ⟨z, rfl, fun h => absurd h hz', fun h => HZ1.out h⟩
      · rename_i hz
        exact ⟨⟨1, by omega, rfl, HZ0.out (by simpa using hz)⟩, by simp [intOf]⟩
    · have D := h2 _ hP
      go_wp2_with ((with_reducible refine D.mono ?_); rintro e W3 ⟨z, rfl, hz0, hz1⟩; have HZ0 := Lib.hid hz0; have HZ1 := Lib.hid hz1; clear hz0 hz1)
      · rename_i hz
        have hz' : z ≠ 0 := by simpa using hz
        go_ret
        exact ⟨z, rfl, fun h => absurd h hz', fun h => HZ1.out h⟩
      · rename_i hz
        exact ⟨⟨2, by omega, rfl, HZ0.out (by simpa using hz)⟩, by simp [intOf]⟩
    · have D := h3 _ hP
      go_wp2_with ((with_reducible refine D.mono ?_); rintro e W3 ⟨z, rfl, hz0, hz1⟩; have HZ0 := Lib.hid hz0; have HZ1 := Lib.hid hz1; clear hz0 hz1)
      · rename_i hz
        have hz' : z ≠ 0 := by simpa using hz
        go_ret
        exact ⟨z, rfl, fun h => absurd h hz', fun h => HZ1.out h⟩
      · rename_i hz
        exact ⟨⟨3, by omega, rfl, HZ0.out (by simpa using hz)⟩, by simp [intOf]⟩
    · go_wp2
      go_ret
      exact ⟨0, rfl, fun _ => hP, fun h => absurd rfl h⟩
end Go.Proofs.Ytachkhjbckapoaa

namespace Go.Proofs.Ytachkhjbckapoaa
open Go.RowKit
set_option linter.unusedVariables false
set_option maxRecDepth 100000
set_option linter.unusedSimpArgs false

/-- The five variables that the steps share, each in a block of its own. -/
def EncM (L R F K B G : Nat) (gcs : Array Value) (lv : Value) (rcs : Array Value) (fv : Value) (kcs : Array Value) (bvv : Value) (W : World) : Prop :=
  Boxed W L 22 lv ∧ W.heap[R]? = some (.cells rcs 28 (0, 0)) ∧ Boxed W F 50 fv ∧ W.heap[K]? = some (.cells kcs 49 (0, 0)) ∧ Boxed W B 30 bvv ∧ W.heap[G]? = some (.cells gcs 54 (0, 0))
theorem EncM.below {L R F K B G : Nat} {gcs : Array Value} {lv fv bvv : Value} {rcs kcs : Array Value} {W W' : World} (h : EncM L R F K B G gcs lv rcs fv kcs bvv W) (hb : Below W.heap.size W W') : EncM L R F K B G gcs lv rcs fv kcs bvv W' := by
  obtain ⟨h1, h2, h3, h4, h5, h6⟩ := h
  have K : ∀ {b : Nat} {o : Obj}, W.heap[b]? = some o → W'.heap[b]? = some o := fun h => (hb.block _ (Array.getElem?_eq_some_iff.1 h).1).trans h
  exact ⟨K h1, K h2, K h3, K h4, K h5, K h6⟩
theorem EncM.setF {L R F K B G : Nat} {gcs : Array Value} {lv fv bvv : Value} {rcs kcs : Array Value} {W : World} (h : EncM L R F K B G gcs lv rcs fv kcs bvv W) (ho : L < R ∧ R < F ∧ F < K ∧ K < B ∧ B < G) (v : Value) : EncM L R F K B G gcs lv rcs v kcs bvv (W.setCell ⟨F, 0, none⟩ v) := by
  obtain ⟨h1, h2, h3, h4, h5, h6⟩ := h
  have K : ∀ {b : Nat}, b ≠ F → (W.setCell ⟨F, 0, none⟩ v).heap[b]? = W.heap[b]? := fun h => Below.heap_setCell W _ v _ h
  exact ⟨(K (by omega)).trans h1, (K (by omega)).trans h2, h3.set v, (K (by omega)).trans h4, (K (by omega)).trans h5, (K (by omega)).trans h6⟩
theorem EncM.setB {L R F K B G : Nat} {gcs : Array Value} {lv fv bvv : Value} {rcs kcs : Array Value} {W : World} (h : EncM L R F K B G gcs lv rcs fv kcs bvv W) (ho : L < R ∧ R < F ∧ F < K ∧ K < B ∧ B < G) (v : Value) : EncM L R F K B G gcs lv rcs fv kcs v (W.setCell ⟨B, 0, none⟩ v) := by
  obtain ⟨h1, h2, h3, h4, h5, h6⟩ := h
  have K : ∀ {b : Nat}, b ≠ B → (W.setCell ⟨B, 0, none⟩ v).heap[b]? = W.heap[b]? := fun h => Below.heap_setCell W _ v _ h
  exact ⟨(K (by omega)).trans h1, (K (by omega)).trans h2, (K (by omega)).trans h3, (K (by omega)).trans h4, h5.set v, (K (by omega)).trans h6⟩
theorem infoR : (Try.prog.info? 28).map (·.size) = some 15 := by kernel_rfl

set_option maxHeartbeats 8000000 in
set_option maxRecDepth 100000 in
theorem enc1_any (L R F K B G : Nat) (gcs : Array Value) (ho : L < R ∧ R < F ∧ F < K ∧ K < B ∧ B < G) (A : Option Addr) (c : Nat) (ks : List Ky) (a0 a1 a2 a3 a4 a5 a6 a7 a8 a9 a10 a11 a12 a13 a14 : Int) (kcs : Array Value) (bvv : Value) (w0 W : World) (hr : RdK w0 A ks) (hl : ks.length ≤ 9223372036854775807) (hb0 : Below w0.heap.size w0 W) (hL0 : w0.heap.size ≤ L)
    (hM : EncM L R F K B G gcs (.slice A ks.length c) #[.int .i64 a0, .int .i64 a1, .int .i64 a2, .int .i64 a3, .int .i64 a4, .int .i64 a5, .int .i64 a6, .int .i64 a7, .int .i64 a8, .int .i64 a9, .int .i64 a10, .int .i64 a11, .int .i64 a12, .int .i64 a13, .int .i64 a14] (.slice none 0 0) kcs bvv W) :
    Calls Try.prog 27 #[.pointer (some ⟨L, 0, none⟩), .pointer (some ⟨R, 0, none⟩), .pointer (some ⟨F, 0, none⟩)] W fun e W' => ∃ (v : Value) (Lf : List Fv), e = .returned (.int .i64 (encF ks [a0, a1, a2, a3, a4, a5, a6, a7, a8, a9, a10, a11, a12, a13, a14]).2) ∧ Lf.map (·.f) = (encF ks [a0, a1, a2, a3, a4, a5, a6, a7, a8, a9, a10, a11, a12, a13, a14]).1 ∧
      EncM L R F K B G gcs (.slice A ks.length c) #[.int .i64 a0, .int .i64 a1, .int .i64 a2, .int .i64 a3, .int .i64 a4, .int .i64 a5, .int .i64 a6, .int .i64 a7, .int .i64 a8, .int .i64 a9, .int .i64 a10, .int .i64 a11, .int .i64 a12, .int .i64 a13, .int .i64 a14] v kcs bvv W' ∧ OwnF (B + 1) W' v Lf ∧ Below w0.heap.size w0 W' := by
  have hI := ringIs_any A c ks W (hr.below hb0 (Nat.le_refl _)) hl
  have hc1 := hM.1.cell
  have HM := Lib.hid hM
  cases hz : ringB ks with
  | false =>
    have E := Lib.hid (show encF ks [a0, a1, a2, a3, a4, a5, a6, a7, a8, a9, a10, a11, a12, a13, a14] = ([], 1) by unfold encF; rw [hz]; rfl)
    rw [hz] at hI
    clear hM
    go_enter Try.func27, Try.ntmps27
    go_wp2_with (go_at_call 28; (with_reducible refine hI.mono ?_); rintro e w1 ⟨rfl, hb1⟩)
    go_ret
    exact ⟨_, [], by rw [E.out] <;> rfl, by rw [E.out] <;> rfl, HM.out.below hb1, OwnF.nil _ _, bT hb0 hb1⟩
  | true =>
    have E := Lib.hid (show encF ks [a0, a1, a2, a3, a4, a5, a6, a7, a8, a9, a10, a11, a12, a13, a14] = fpE [a0, a1, a2, a3, a4, a5, a6, a7, a8, a9, a10, a11, a12, a13, a14] by unfold encF; rw [hz]; rfl)
    rw [hz] at hI
    clear hM
    obtain ⟨rv, hrv⟩ : ∃ rv, fpE [a0, a1, a2, a3, a4, a5, a6, a7, a8, a9, a10, a11, a12, a13, a14] = rv := ⟨_, rfl⟩
    have hP := fun W => fieldsPut_any a0 a1 a2 a3 a4 a5 a6 a7 a8 a9 a10 a11 a12 a13 a14 W
    rw [hrv] at hP E
    clear hrv
    go_enter Try.func27, Try.ntmps27
    go_wp2_with (first | (go_at_call 28; (with_reducible refine hI.mono ?_); rintro e w1 ⟨rfl, hb1⟩; have hM1 := HM.out.below hb1; have hR1 := hM1.2.1; have HB1 := Lib.hid (bT hb0 hb1); have HM1 := Lib.hid hM1; clear hM1 hb1) | (refine wpList_load_row rfl 28 (.tmp 1) rfl R rfl 28 #[.int .i64 a0, .int .i64 a1, .int .i64 a2, .int .i64 a3, .int .i64 a4, .int .i64 a5, .int .i64 a6, .int .i64 a7, .int .i64 a8, .int .i64 a9, .int .i64 a10, .int .i64 a11, .int .i64 a12, .int .i64 a13, .int .i64 a14] (0, 0) _ hR1 Try.underlying28 rfl ?_ ?_; (focus (exact infoR))) | (go_at_call 29; (with_reducible refine (hP _).mono ?_); rintro e w2 ⟨v, Lf, rfl, hLf, hO, hb2⟩; obtain ⟨Av, cv, rfl, _, _, _⟩ := hO.rdF; have hM2 := HM1.out.below hb2; have hcF := hM2.2.2.1.cell; have hfF := hM2.2.2.1.frozen; have HM2 := Lib.hid hM2; have HB2 := Lib.hid (bT HB1.out hb2); have HO := Lib.hid (hO.mono (Nat.succ_le_of_lt HM1.out.2.2.2.2.1.lt)); clear hM2 hO hb2))
    go_ret
    exact ⟨_, Lf, by rw [E.out] <;> rfl, by rw [E.out]; exact hLf, HM2.out.setF ho _, HO.out.set (by omega), HB2.out.setCell (p := ⟨F, 0, none⟩) (show w0.heap.size ≤ F by omega) _⟩
end Go.Proofs.Ytachkhjbckapoaa

namespace Go.Proofs.Ytachkhjbckapoaa
open Go.RowKit
set_option linter.unusedVariables false
set_option maxRecDepth 100000
set_option linter.unusedSimpArgs false

theorem OwnF.above {base : Nat} {w w' : World} {v : Value} {L : List Fv} (h : OwnF base w v L) (hs : w'.heap.size = w.heap.size) (K : ∀ b, base ≤ b → w'.heap[b]? = w.heap[b]?) : OwnF base w' v L := by
  obtain ⟨⟨h1, h2⟩, h3⟩ := h
  refine ⟨⟨h1, h2.imp id fun ⟨k, cap, cur, e1, e2, e3, e4⟩ => ⟨k, cap, cur, e1, e2, (K k e2).trans e3, e4⟩⟩, fun x hx => ?_⟩
  obtain ⟨k1, k2, k3, k4, k5⟩ := h3 x hx
  refine ⟨k1, k2, ?_, k4, k5⟩
  rcases k3 with k3 | ⟨ad, e, hlt, hc⟩
  · exact .inl k3
  · rcases k5 with k5 | k5
    · exact .inl k5
    · exact .inr ⟨ad, e, by rw [hs]; exact hlt, fun j hj => (World.cell?_of_block (K (ad.add j).block (by rw [add_block]; exact (k5 ad e).1))).trans (hc j hj)⟩
theorem EncM.setK {L R F K B G : Nat} {gcs : Array Value} {lv fv bvv : Value} {rcs kcs : Array Value} {W : World} (h : EncM L R F K B G gcs lv rcs fv kcs bvv W) (ho : L < R ∧ R < F ∧ F < K ∧ K < B ∧ B < G) (cs : Array Value) : EncM L R F K B G gcs lv rcs fv cs bvv (W.setRow K cs) := by
  obtain ⟨h1, h2, h3, h4, h5, h6⟩ := h
  have N : ∀ {b : Nat}, b ≠ K → (W.setRow K cs).heap[b]? = W.heap[b]? := fun h => setRow_other W K _ cs h
  exact ⟨(N (by omega)).trans h1, (N (by omega)).trans h2, (N (by omega)).trans h3, setRow_heap _ _ _ _ _ _ h4, (N (by omega)).trans h5, (N (by omega)).trans h6⟩
def keyC (r : Option Ky) (B : Option Addr) (c : Nat) : Array Value := match r with
  | some k => #[.int .i64 k.id, .slice B k.sec.length c, .int .i64 k.fr, .int .i64 k.til]
  | none => #[.int .i64 0, .slice none 0 0, .int .i64 0, .int .i64 0]
theorem keyV_eq (r : Option Ky) (B : Option Addr) (c : Nat) : keyV r B c = .agg (keyC r B c) := by cases r <;> rfl
theorem keyC_size (r : Option Ky) (B : Option Addr) (c : Nat) : (keyC r B c).size = 4 := by cases r <;> rfl
theorem keyC_one (r : Option Ky) (B : Option Addr) (c : Nat) : (keyC r B c).all (·.oneCell') = true := by cases r <;> simp [keyC, Value.oneCell']

set_option maxHeartbeats 8000000 in
set_option maxRecDepth 100000 in
theorem enc2_any (L R F K B G : Nat) (gcs : Array Value) (ho : L < R ∧ R < F ∧ F < K ∧ K < B ∧ B < G) (A : Option Addr) (c : Nat) (ks : List Ky) (a0 a1 a2 a3 a4 a5 a6 a7 a8 a9 a10 a11 a12 a13 a14 : Int) (fv : Value) (Lf : List Fv) (kcs : Array Value) (hk4 : kcs.size = 4) (bvv : Value) (w0 W : World) (hr : RdK w0 A ks) (hl : ks.length ≤ 9223372036854775807) (hb0 : Below w0.heap.size w0 W) (hL0 : w0.heap.size ≤ L)
    (hM : EncM L R F K B G gcs (.slice A ks.length c) #[.int .i64 a0, .int .i64 a1, .int .i64 a2, .int .i64 a3, .int .i64 a4, .int .i64 a5, .int .i64 a6, .int .i64 a7, .int .i64 a8, .int .i64 a9, .int .i64 a10, .int .i64 a11, .int .i64 a12, .int .i64 a13, .int .i64 a14] fv kcs bvv W) (hO : OwnF (B + 1) W fv Lf) :
    Calls Try.prog 30 #[.pointer (some ⟨L, 0, none⟩), .pointer (some ⟨R, 0, none⟩), .pointer (some ⟨K, 0, none⟩)] W fun e W' => ∃ (Bk : Option Addr) (ck : Nat), e = .returned (.int .i64 (findE ks a11).2) ∧
      (∀ k, (findE ks a11).1 = some k → k.sec.length ≤ ck ∧ ck ≤ 9223372036854775807 ∧ RdI w0 .u8 Bk k.sec ∧ (∀ x ∈ k.sec, 0 ≤ x ∧ x < 256) ∧ rightB k = true ∧ k.id = a11) ∧
      EncM L R F K B G gcs (.slice A ks.length c) #[.int .i64 a0, .int .i64 a1, .int .i64 a2, .int .i64 a3, .int .i64 a4, .int .i64 a5, .int .i64 a6, .int .i64 a7, .int .i64 a8, .int .i64 a9, .int .i64 a10, .int .i64 a11, .int .i64 a12, .int .i64 a13, .int .i64 a14] fv (keyC (findE ks a11).1 Bk ck) bvv W' ∧ OwnF (B + 1) W' fv Lf ∧ Below w0.heap.size w0 W' := by
  have hF := fun W hW => ringFind_any A c ks a11 w0 W hr hW hl
  have hc1 := hM.1.cell
  have hcR := cell_of_row W R 11 _ _ _ hM.2.1
  have HM := Lib.hid hM
  clear hM
  go_enter Try.func30, Try.ntmps30
  go_wp2_with (first | (go_at_call 31; (with_reducible refine (hF _ hb0).mono ?_); rintro e w2 ⟨⟨Bk, ck, rfl, hkk⟩, hb2⟩; rw [keyV_eq]; have hM2 := HM.out.below hb2; have hKr := hM2.2.2.2.1; have HM2 := Lib.hid hM2; have HO := Lib.hid (hO.below hb2); have HB2 := Lib.hid (bT hb0 hb2); have HK := Lib.hid hkk; clear hM2 hkk hb2) | (refine wpList_store_row rfl 49 _ _ rfl K (keyC (findE ks a11).1 Bk ck) rfl rfl 49 _ hKr ?_ ?_ ?_ ?_; (focus (rw [keyC_size]; exact infoK)); (focus (rw [keyC_size, hk4])); (focus (exact keyC_one _ _ _))))
  go_ret
  exact ⟨Bk, ck, rfl, HK.out, HM2.out.setK ho _, HO.out.above (setRow_size _ _ _) (fun b hb => setRow_other _ _ _ _ (by omega)), setRow_below HB2.out (by omega)⟩

set_option maxHeartbeats 8000000 in
set_option maxRecDepth 100000 in
theorem enc3_any (L R F K B G : Nat) (gcs : Array Value) (ho : L < R ∧ R < F ∧ F < K ∧ K < B ∧ B < G) (lv : Value) (rcs : Array Value) (fv : Value) (Lf : List Fv) (kcs : Array Value) (w0 W : World) (hb0 : Below w0.heap.size w0 W) (hL0 : w0.heap.size ≤ L)
    (hM : EncM L R F K B G gcs lv rcs fv kcs (.slice none 0 0) W) (hO : OwnF (B + 1) W fv Lf) :
    Calls Try.prog 32 #[.pointer (some ⟨F, 0, none⟩), .pointer (some ⟨B, 0, none⟩)] W fun e W' => ∃ (v : Value), e = .returned (.int .i64 (putE17 (Lf.map (·.f))).2) ∧
      EncM L R F K B G gcs lv rcs fv kcs v W' ∧ W'.ownsRow (B + 1) 5 1 v (putE17 (Lf.map (·.f))).1.length ((putE17 (Lf.map (·.f))).1.map (.int .u8)) ∧ Below w0.heap.size w0 W' := by
  obtain ⟨A, c, rfl, hlc, hc9, hR⟩ := hO.rdF
  have hP := fun W hW => tlvPut_any A c (Lf.map (·.f)) W hW (by rw [List.length_map]; omega)
  obtain ⟨rv, hrv⟩ : ∃ rv, putE17 (Lf.map (·.f)) = rv := ⟨_, rfl⟩
  rw [List.length_map, hrv] at hP
  rw [hrv]
  have hcF := hM.2.2.1.cell
  have hlB := hM.2.2.2.2.1.lt
  have HM := Lib.hid hM
  clear hM hrv
  go_enter Try.func32, Try.ntmps32
  go_wp2_with (go_at_call 33; (with_reducible refine (hP _ hR).mono ?_); rintro e w2 ⟨v, rfl, ho2, hb2⟩; obtain ⟨Av, cv, rfl, _, _⟩ := own_slice ho2; have hM2 := HM.out.below hb2; have hcB := hM2.2.2.2.2.1.cell; have hfB := hM2.2.2.2.2.1.frozen; have HM2 := Lib.hid hM2; have HB2 := Lib.hid (bT hb0 hb2); have HO2 := Lib.hid (own_base ho2 (Nat.succ_le_of_lt hlB)); clear hM2 hb2 ho2)
  go_ret
  refine ⟨_, rfl, HM2.out.setB ho _, ?_, HB2.out.setCell (p := ⟨B, 0, none⟩) (show w0.heap.size ≤ B by omega) _⟩
  obtain ⟨h1, h2⟩ := HO2.out
  exact ⟨h1, h2.imp id fun ⟨k, cap, cur, e1, e2, e3, e4⟩ => ⟨k, cap, cur, e1, e2, (Below.heap_setCell _ _ _ k (by show k ≠ B; omega)).trans e3, e4⟩⟩
end Go.Proofs.Ytachkhjbckapoaa

namespace Go.Proofs.Ytachkhjbckapoaa
open Go.RowKit
set_option linter.unusedVariables false
set_option maxRecDepth 100000
set_option linter.unusedSimpArgs false

theorem putF_len : ∀ (l : List Fd), (∀ f ∈ l, f.val.length ≤ 255) → (putF l).length ≤ 257 * l.length
  | [], _ => by simp [putF]
  | f :: t, h => by
    have h1 := h f (by simp)
    have h2 := putF_len t (fun x hx => h x (by simp [hx]))
    rw [putF_cons]
    simp only [List.length_cons, List.length_append]
    omega
theorem putF_byte : ∀ (l : List Fd), (∀ f ∈ l, (0 ≤ f.tag ∧ f.tag ≤ 255) ∧ f.val.length ≤ 255 ∧ ∀ x ∈ f.val, 0 ≤ x ∧ x < 256) → ∀ x ∈ putF l, 0 ≤ x ∧ x < 256
  | [], _, x, hx => by simp [putF] at hx
  | f :: t, h, x, hx => by
    obtain ⟨h1, h2, h3⟩ := h f (by simp)
    rw [putF_cons] at hx
    rcases List.mem_cons.1 hx with rfl | hx
    · omega
    rcases List.mem_cons.1 hx with rfl | hx
    · omega
    rcases List.mem_append.1 hx with hx | hx
    · exact h3 x hx
    · exact putF_byte t (fun y hy => h y (by simp [hy])) x hx
def kz : Array Value := #[.int .i64 0, .slice none 0 0, .int .i64 0, .int .i64 0]
def encG (N : Nat) : Array Value := #[.func (.func 27) #[] #[.pointer (some ⟨N, 0, none⟩), .pointer (some ⟨N + 1, 0, none⟩), .pointer (some ⟨N + 1 + 1, 0, none⟩)], .func (.func 30) #[] #[.pointer (some ⟨N, 0, none⟩), .pointer (some ⟨N + 1, 0, none⟩), .pointer (some ⟨N + 1 + 1 + 1, 0, none⟩)], .func (.func 32) #[] #[.pointer (some ⟨N + 1 + 1, 0, none⟩), .pointer (some ⟨N + 1 + 1 + 1 + 1, 0, none⟩)]]
def EncA (N : Nat) (lv : Value) (rcs : Array Value) (fv : Value) (kcs : Array Value) (bvv : Value) (W : World) : Prop := EncM N (N + 1) (N + 1 + 1) (N + 1 + 1 + 1) (N + 1 + 1 + 1 + 1) (N + 1 + 1 + 1 + 1 + 1) (encG N) lv rcs fv kcs bvv W
def EncP (ks : List Ky) (l : List Int) (lv : Value) (rcs : Array Value) (w : World) : Nat → World → Prop
  | 0, W => EncA w.heap.size lv rcs (.slice none 0 0) kz (.slice none 0 0) W ∧ Below w.heap.size w W
  | 1, W => ∃ (v : Value) (Lf : List Fv), (Lf.map (·.f) = (encF ks l).1 ∧ (encF ks l).2 = 0) ∧ EncA w.heap.size lv rcs v kz (.slice none 0 0) W ∧ OwnF (w.heap.size + 1 + 1 + 1 + 1 + 1) W v Lf ∧ Below w.heap.size w W
  | 2, W => ∃ (v : Value) (Lf : List Fv) (k : Ky) (Bk : Option Addr) (ck : Nat), (Lf.map (·.f) = (encF ks l).1 ∧ (encF ks l).2 = 0) ∧ EncA w.heap.size lv rcs v (keyC (some k) Bk ck) (.slice none 0 0) W ∧ OwnF (w.heap.size + 1 + 1 + 1 + 1 + 1) W v Lf ∧ Below w.heap.size w W ∧
      ((findE ks (l.getD 11 0)) = (some k, 0) ∧ k.sec.length ≤ ck ∧ ck ≤ 9223372036854775807 ∧ RdI w .u8 Bk k.sec ∧ (∀ x ∈ k.sec, 0 ≤ x ∧ x < 256) ∧ rightB k = true)
  | 3, W => ∃ (v u : Value) (k : Ky) (Bk : Option Addr) (ck : Nat), ((encF ks l).2 = 0 ∧ (putE17 (encF ks l).1).2 = 0 ∧ ∀ x ∈ (putE17 (encF ks l).1).1, 0 ≤ x ∧ x < 256) ∧ EncA w.heap.size lv rcs v (keyC (some k) Bk ck) u W ∧ W.ownsRow (w.heap.size + 1 + 1 + 1 + 1 + 1) 5 1 u (putE17 (encF ks l).1).1.length ((putE17 (encF ks l).1).1.map (.int .u8)) ∧ Below w.heap.size w W ∧
      ((findE ks (l.getD 11 0)) = (some k, 0) ∧ k.sec.length ≤ ck ∧ ck ≤ 9223372036854775807 ∧ RdI w .u8 Bk k.sec ∧ (∀ x ∈ k.sec, 0 ≤ x ∧ x < 256) ∧ rightB k = true)
  | _, _ => False
theorem findE_some {ks : List Ky} {id : Int} {k : Ky} (h : (findE ks id).1 = some k) : findE ks id = (some k, 0) := by
  unfold findE at h ⊢
  split at h
  · cases h
  · rename_i g
    rw [if_neg g]
    split at h
    · rename_i g2
      rw [if_pos g2]
      split at h
      · rename_i q hq
        have h : some q = some k := h
        rw [h]
      · cases h
    · cases h
theorem findE_none {ks : List Ky} {id : Int} (h : (findE ks id).1 = none) : (findE ks id).2 ≠ 0 := by
  unfold findE at h ⊢
  split at h
  · rename_i g
    rw [if_pos g]; simp
  · rename_i g
    rw [if_neg g]
    split at h
    · rename_i g2
      rw [if_pos g2]
      split at h
      · cases h
      · rename_i hq
        simp
    · rename_i g2
      rw [if_neg g2]; simp
theorem encA_func {N k : Nat} {lv fv bvv : Value} {rcs kcs : Array Value} {W : World} (h : EncA N lv rcs fv kcs bvv W) : W.cell? ⟨N + 1 + 1 + 1 + 1 + 1, k, none⟩ = (encG N)[k]? := cell_of_row _ _ k _ _ _ h.2.2.2.2.2
theorem encP_func {ks : List Ky} {l : List Int} {lv : Value} {rcs : Array Value} {w : World} (n : Nat) (W : World) (h : EncP ks l lv rcs w n W) (k : Nat) : W.cell? ⟨w.heap.size + 1 + 1 + 1 + 1 + 1, k, none⟩ = (encG w.heap.size)[k]? := by
  match n, h with
  | 0, h => exact encA_func h.1
  | 1, ⟨_, _, _, h, _⟩ => exact encA_func h
  | 2, ⟨_, _, _, _, _, _, h, _⟩ => exact encA_func h
  | 3, ⟨_, _, _, _, _, _, h, _⟩ => exact encA_func h
theorem tlvB_vals {l : List Fd} (h : (putE17 l).2 = 0) : tlvB 0 l = true ∧ putE17 l = (putF l, 0) := by
  unfold putE17 at h ⊢
  cases g : tlvB 0 l with
  | true => simp
  | false => rw [g] at h; simp at h

theorem boxed_below {W W' : World} {B : Nat} {t : TypeId} {v : Value} (h : Boxed W B t v) (hb : Below W.heap.size W W') : Boxed W' B t v := (hb.block _ h.lt).trans h
/-- The three steps of Encode, one behind the other. -/
theorem encSteps_any (A : Option Addr) (c : Nat) (ks : List Ky) (a0 a1 a2 a3 a4 a5 a6 a7 a8 a9 a10 a11 a12 a13 a14 : Int) (w W : World) (hr : RdK w A ks) (hl : ks.length ≤ 9223372036854775807)
    (h0 : EncP ks [a0, a1, a2, a3, a4, a5, a6, a7, a8, a9, a10, a11, a12, a13, a14] (.slice A ks.length c) #[.int .i64 a0, .int .i64 a1, .int .i64 a2, .int .i64 a3, .int .i64 a4, .int .i64 a5, .int .i64 a6, .int .i64 a7, .int .i64 a8, .int .i64 a9, .int .i64 a10, .int .i64 a11, .int .i64 a12, .int .i64 a13, .int .i64 a14] w 0 W) :
    Calls Try.prog 26 #[.slice (some ⟨w.heap.size + 1 + 1 + 1 + 1 + 1, 0, none⟩) 3 3] W
      (StepRet (EncP ks [a0, a1, a2, a3, a4, a5, a6, a7, a8, a9, a10, a11, a12, a13, a14] (.slice A ks.length c) #[.int .i64 a0, .int .i64 a1, .int .i64 a2, .int .i64 a3, .int .i64 a4, .int .i64 a5, .int .i64 a6, .int .i64 a7, .int .i64 a8, .int .i64 a9, .int .i64 a10, .int .i64 a11, .int .i64 a12, .int .i64 a13, .int .i64 a14] w 3) (fun z W' => Below w.heap.size w W' ∧ encE ks [a0, a1, a2, a3, a4, a5, a6, a7, a8, a9, a10, a11, a12, a13, a14] = ([], z))) := by
  obtain ⟨l, hL⟩ : ∃ l, [a0, a1, a2, a3, a4, a5, a6, a7, a8, a9, a10, a11, a12, a13, a14] = l := ⟨_, rfl⟩
  have h11 : l.getD 11 0 = a11 := by rw [← hL]; rfl
  have hE1 := fun L R F K B G gcs ho kcs bvv W hb hl0 hM => enc1_any L R F K B G gcs ho A c ks a0 a1 a2 a3 a4 a5 a6 a7 a8 a9 a10 a11 a12 a13 a14 kcs bvv w W hr hl hb hl0 hM
  have hE2 := fun L R F K B G gcs ho fv Lf kcs hk bvv W hb hl0 hM hO => enc2_any L R F K B G gcs ho A c ks a0 a1 a2 a3 a4 a5 a6 a7 a8 a9 a10 a11 a12 a13 a14 fv Lf kcs hk bvv w W hr hl hb hl0 hM hO
  rw [hL] at h0 hE1 ⊢
  refine steps_any _ 27 30 32 _ _ _ _ _ W h0 (fun k W' h => ⟨encP_func k W' h 0, encP_func k W' h 1, encP_func k W' h 2⟩) (fun _ => rfl) (fun _ => rfl) (fun _ => rfl) ?_ ?_ ?_
  · rintro W' ⟨hM, hb⟩
    refine (hE1 _ _ _ _ _ _ _ ⟨by omega, by omega, by omega, by omega, by omega⟩ _ _ W' hb (Nat.le_refl _) hM).mono ?_
    rintro e W2 ⟨v, Lf, rfl, hLf, hM2, hO, hb2⟩
    refine ⟨_, rfl, fun hz => ⟨v, Lf, ⟨hLf, hz⟩, hM2, hO, hb2⟩, fun hz => ⟨hb2, ?_⟩⟩
    unfold encE
    rw [if_pos hz]
  · rintro W' ⟨v, Lf, ⟨hLf, hz⟩, hM, hO, hb⟩
    refine (hE2 _ _ _ _ _ _ _ ⟨by omega, by omega, by omega, by omega, by omega⟩ v Lf _ rfl _ W' hb (Nat.le_refl _) hM hO).mono ?_
    rintro e W2 ⟨Bk, ck, rfl, hk, hM2, hO2, hb2⟩
    refine ⟨_, rfl, fun hz2 => ?_, fun hz2 => ⟨hb2, ?_⟩⟩
    · cases hf : (findE ks a11).1 with
      | none => exact absurd hz2 (findE_none hf)
      | some k =>
        rw [hf] at hM2
        obtain ⟨k1, k2, k3, k4, k5, k6⟩ := hk k hf
        exact ⟨v, Lf, k, Bk, ck, ⟨hLf, hz⟩, hM2, hO2, hb2, by rw [h11]; exact findE_some hf, k1, k2, k3, k4, k5⟩
    · unfold encE
      rw [if_neg (by omega), h11]
      cases hf : (findE ks a11).1 with
      | none =>
        rw [show findE ks a11 = (none, (findE ks a11).2) by rw [← hf]]
      | some k =>
        have := findE_some hf
        rw [this] at hz2
        exact absurd rfl hz2
  · rintro W' ⟨v, Lf, k, Bk, ck, ⟨hLf, hz⟩, hM, hO, hb, hk⟩
    refine (enc3_any _ _ _ _ _ _ _ ⟨by omega, by omega, by omega, by omega, by omega⟩ _ _ v Lf _ w W' hb (Nat.le_refl _) hM hO).mono ?_
    rintro e W2 ⟨u, rfl, hM2, ho2, hb2⟩
    rw [hLf] at ho2 ⊢
    refine ⟨_, rfl, fun hz2 => ⟨v, u, k, Bk, ck, ⟨hz, hz2, ?_⟩, hM2, ho2, hb2, hk⟩, fun hz2 => ⟨hb2, ?_⟩⟩
    · obtain ⟨t1, t2⟩ := tlvB_vals hz2
      rw [t2]
      obtain ⟨_, t3⟩ := tlvB_facts _ 0 t1 (by omega)
      rw [← hLf] at t3 ⊢
      refine putF_byte _ (fun f hf => ?_)
      obtain ⟨x, hx, rfl⟩ := List.mem_map.1 hf
      have h3 := t3 x.f hf
      exact ⟨⟨by omega, by omega⟩, h3.2.2, (hO.2 x hx).2.2.2.1⟩
    · unfold encE
      rw [if_neg (by omega), hk.1]
      simp only
      rw [if_pos hz2]

theorem enc_start (w : World) (lv : Value) (rcs : Array Value) : EncA w.heap.size lv rcs (.slice none 0 0) kz (.slice none 0 0) ((((((w.alloc (.cells #[lv] 22)).alloc (.cells rcs 28)).alloc (.cells #[.slice none 0 0] 50)).alloc (.cells kz 49)).alloc (.cells #[.slice none 0 0] 30)).alloc (.cells (encG w.heap.size) 54)) ∧ Below w.heap.size w ((((((w.alloc (.cells #[lv] 22)).alloc (.cells rcs 28)).alloc (.cells #[.slice none 0 0] 50)).alloc (.cells kz 49)).alloc (.cells #[.slice none 0 0] 30)).alloc (.cells (encG w.heap.size) 54)) := by
  have N : ∀ {W W' : World} {b : Nat} {o : Obj}, Below W.heap.size W W' → W.heap[b]? = some o → W'.heap[b]? = some o := fun hb h => (hb.block _ (Array.getElem?_eq_some_iff.1 h).1).trans h
  obtain ⟨w1, e1, h1, b1, z1⟩ := new_block w (.cells #[lv] 22)
  rw [e1]
  obtain ⟨w2, e2, h2, b2, z2⟩ := new_block w1 (.cells rcs 28)
  rw [e2]
  obtain ⟨w3, e3, h3, b3, z3⟩ := new_block w2 (.cells #[.slice none 0 0] 50)
  rw [e3]
  obtain ⟨w4, e4, h4, b4, z4⟩ := new_block w3 (.cells kz 49)
  rw [e4]
  obtain ⟨w5, e5, h5, b5, z5⟩ := new_block w4 (.cells #[.slice none 0 0] 30)
  rw [e5]
  obtain ⟨w6, e6, h6, b6, z6⟩ := new_block w5 (.cells (encG w.heap.size) 54)
  rw [e6]
  rw [z1] at h2 z2
  rw [z2] at h3 z3
  rw [z3] at h4 z4
  rw [z4] at h5 z5
  rw [z5] at h6
  exact ⟨⟨N b6 (N b5 (N b4 (N b3 (N b2 h1)))), N b6 (N b5 (N b4 (N b3 h2))), N b6 (N b5 (N b4 h3)), N b6 (N b5 h4), N b6 h5, h6⟩, bT (bT (bT (bT (bT b1 b2) b3) b4) b5) b6⟩
theorem encE_ok {ks : List Ky} {l : List Int} {k : Ky} (h1 : (encF ks l).2 = 0) (h2 : findE ks (l.getD 11 0) = (some k, 0)) (h3 : (putE17 (encF ks l).1).2 = 0) :
    encE ks l = (fortyPut ((putE17 (encF ks l).1).1 ++ tagN k.sec (66 :: (putE17 (encF ks l).1).1)), 0) := by
  obtain ⟨_, t2⟩ := tlvB_vals h3
  unfold encE
  rw [if_neg (by omega), h2]
  simp only
  rw [if_neg (by omega), t2]

theorem rightB_len {k : Ky} (h : rightB k = true) : 1 ≤ k.sec.length ∧ k.sec.length ≤ 64 := by
  unfold rightB at h
  simp only [Bool.and_eq_true, decide_eq_true_eq] at h
  exact h.1.2
theorem putE_len {l : List Fd} (h : (putE17 l).2 = 0) : (putE17 l).1.length ≤ 65535 := by
  obtain ⟨t1, t2⟩ := tlvB_vals h
  obtain ⟨t3, t4⟩ := tlvB_facts _ 0 t1 (by omega)
  rw [t2]
  have := putF_len l (fun f hf => (t4 f hf).2.2)
  show (putF l).length ≤ 65535
  omega
set_option maxHeartbeats 8000000 in
set_option maxRecDepth 100000 in
theorem bcEncode_any (A : Option Addr) (c : Nat) (ks : List Ky) (a0 a1 a2 a3 a4 a5 a6 a7 a8 a9 a10 a11 a12 a13 a14 : Int) (w : World) (hr : RdK w A ks) (hl : ks.length ≤ 9223372036854775807) :
    Calls Try.prog 9 #[.slice A ks.length c, .agg #[.int .i64 a0, .int .i64 a1, .int .i64 a2, .int .i64 a3, .int .i64 a4, .int .i64 a5, .int .i64 a6, .int .i64 a7, .int .i64 a8, .int .i64 a9, .int .i64 a10, .int .i64 a11, .int .i64 a12, .int .i64 a13, .int .i64 a14]] w (ByteRetE (encE ks [a0, a1, a2, a3, a4, a5, a6, a7, a8, a9, a10, a11, a12, a13, a14]) w) := by
  obtain ⟨i0, hi, hz0, hz1, hz2⟩ := info_parts infoB8
  have hmf : ∀ (fn : Fn) (first cap : Array Value) (w : World), (Instr.makeFunc fn first cap).run Try.prog w = .ok (.func fn first cap) w := fun _ _ _ _ => rfl
  have hS0 := fun W h0 => encSteps_any A c ks a0 a1 a2 a3 a4 a5 a6 a7 a8 a9 a10 a11 a12 a13 a14 w W hr hl h0
  obtain ⟨l, hL⟩ : ∃ l, [a0, a1, a2, a3, a4, a5, a6, a7, a8, a9, a10, a11, a12, a13, a14] = l := ⟨_, rfl⟩
  rw [hL] at hS0 ⊢
  clear hL
  obtain ⟨rv, hrv⟩ : ∃ rv, encE ks l = rv := ⟨_, rfl⟩
  rw [hrv] at hS0 ⊢
  have HV := Lib.hid hrv
  clear hrv
  by_cases h0 : rv.2 = 0
  rotate_left
  · have hS : ∀ W, EncP ks l (.slice A ks.length c) #[.int .i64 a0, .int .i64 a1, .int .i64 a2, .int .i64 a3, .int .i64 a4, .int .i64 a5, .int .i64 a6, .int .i64 a7, .int .i64 a8, .int .i64 a9, .int .i64 a10, .int .i64 a11, .int .i64 a12, .int .i64 a13, .int .i64 a14] w 0 W → Calls Try.prog 26 #[.slice (some ⟨w.heap.size + 1 + 1 + 1 + 1 + 1, 0, none⟩) 3 3] W fun e W' => e = .returned (.int .i64 rv.2) ∧ Below w.heap.size w W' ∧ rv.1 = [] := by
      intro W hW
      refine (hS0 W hW).mono ?_
      rintro e W' ⟨z, rfl, h1, h2⟩
      by_cases hz : z = 0
      · obtain ⟨v, u, k, Bk, ck, ⟨g1, g2, _⟩, _, _, _, g3, _⟩ := h1 hz
        have := encE_ok g1 g3 g2
        rw [HV.out] at this
        exact absurd (congrArg Prod.snd this) h0
      · obtain ⟨g1, g2⟩ := h2 hz
        rw [g2]
        exact ⟨rfl, g1, rfl⟩
    have hE := enc_start w (.slice A ks.length c) #[.int .i64 a0, .int .i64 a1, .int .i64 a2, .int .i64 a3, .int .i64 a4, .int .i64 a5, .int .i64 a6, .int .i64 a7, .int .i64 a8, .int .i64 a9, .int .i64 a10, .int .i64 a11, .int .i64 a12, .int .i64 a13, .int .i64 a14]
    have hzb : (rv.2 != 0) = true := by simpa using h0
    have HE := Lib.hid hE
    clear hS0 hE h0
    go_enter Try.func9, Try.ntmps9
    go_wp2_with (go_at_call 26; refine (hS _ HE.out).mono ?_; rintro e w6 ⟨rfl, hb6, hr1⟩; have HR := Lib.hid hr1; clear hr1)
    go_ret2
    exact ⟨_, rfl, by rw [HR.out]; exact World.ownsRow_nil _ _ _ _, hb6⟩
  · have hS : ∀ W, EncP ks l (.slice A ks.length c) #[.int .i64 a0, .int .i64 a1, .int .i64 a2, .int .i64 a3, .int .i64 a4, .int .i64 a5, .int .i64 a6, .int .i64 a7, .int .i64 a8, .int .i64 a9, .int .i64 a10, .int .i64 a11, .int .i64 a12, .int .i64 a13, .int .i64 a14] w 0 W → Calls Try.prog 26 #[.slice (some ⟨w.heap.size + 1 + 1 + 1 + 1 + 1, 0, none⟩) 3 3] W fun e W' => e = .returned (.int .i64 0) ∧ EncP ks l (.slice A ks.length c) #[.int .i64 a0, .int .i64 a1, .int .i64 a2, .int .i64 a3, .int .i64 a4, .int .i64 a5, .int .i64 a6, .int .i64 a7, .int .i64 a8, .int .i64 a9, .int .i64 a10, .int .i64 a11, .int .i64 a12, .int .i64 a13, .int .i64 a14] w 3 W' := by
      intro W hW
      refine (hS0 W hW).mono ?_
      rintro e W' ⟨z, rfl, h1, h2⟩
      by_cases hz : z = 0
      · exact ⟨by rw [hz], h1 hz⟩
      · obtain ⟨g1, g2⟩ := h2 hz
        rw [g2] at h0
        exact absurd h0 hz
    have hE := enc_start w (.slice A ks.length c) #[.int .i64 a0, .int .i64 a1, .int .i64 a2, .int .i64 a3, .int .i64 a4, .int .i64 a5, .int .i64 a6, .int .i64 a7, .int .i64 a8, .int .i64 a9, .int .i64 a10, .int .i64 a11, .int .i64 a12, .int .i64 a13, .int .i64 a14]
    have HE := Lib.hid hE
    have H0 := Lib.hid h0
    clear hS0 hE h0
    go_enter Try.func9, Try.ntmps9
    go_wp2_with (go_at_call 26; refine (hS _ HE.out).mono ?_; rintro e w6 ⟨rfl, v, u, k, Bk, ck, ⟨g1, g2, gq⟩, hM, hO, hB, gf, k1, k2, k3, k4, k5⟩; have HQ := Lib.hid (encE_ok g1 gf g2); have hql := putE_len g2; clear g1 g2 gf; generalize hq : (putE17 (encF ks l).1).1 = q at *; clear hq; obtain ⟨Au, cu, rfl, u1, u2⟩ := own_slice hO; have hqr := RdI.of_own hO; have hcK : w6.cell? ⟨w.heap.size + 1 + 1 + 1, 1, none⟩ = some (.slice Bk k.sec.length ck) := cell_of_row w6 _ 1 _ _ _ hM.2.2.2.1; have hcB := hM.2.2.2.2.1.cell; have HM := Lib.hid hM; have HO := Lib.hid hO; have HB := Lib.hid hB; have HKR := Lib.hid k3; clear hM hO hB k3)
    refine (bcTag_any Bk Au ck cu k.sec q w6 (HKR.out.below HB.out) hqr (by have := rightB_len k5; omega) (by omega) k4 gq).mono ?_
    rintro e w7 ⟨rfl, b7⟩
    have hTl := tagN_len k.sec (66 :: q)
    have hTb := tagN_byte k.sec (66 :: q)
    generalize tagN k.sec (66 :: q) = TG at *
    have HTL := Lib.hid hTl
    have hcB7 := keep_cell b7 hcB
    obtain ⟨w8, hw8, i8, b8, z8⟩ := newRow w7 (bv (List.replicate 32 0)).toArray (bv TG).toArray 42
    have HW8 := Lib.hid hw8
    have hcB8 := keep_cell b8 hcB7
    have hO8 := own_below (own_below HO.out b7) b8
    have hB8 := bT (bT HB.out b7) b8
    have hbx8 := boxed_below (boxed_below HM.out.2.2.2.2.1 b7) b8
    have HI8 := Lib.hid i8
    clear hw8 i8 hcB hcB7 hqr hTl b7 b8
    go_wp2_with (refine wpList_store_row rfl 42 _ _ rfl w7.heap.size (bv TG).toArray rfl rfl 42 _ (heap_alloc_new w7 _) ?_ ?_ (all_one (bv_one _)) ?_; (focus (rw [List.size_toArray, bv_len, HTL.out]; exact info32)); (focus (show 32 = (bv TG).toArray.size; rw [List.size_toArray, bv_len, HTL.out])); generalize hW8 : World.setRow _ _ _ = w88; obtain rfl : w8 = w88 := (by rw [← HW8.out, ← hW8]; kernel_rfl))
    have hcd : w8.drew.cell? ⟨w.heap.size + 1 + 1 + 1 + 1, 0, none⟩ = some (.slice Au q.length cu) := hcB8
    have hod : w8.drew.ownsRow (w.heap.size + 1 + 1 + 1 + 1 + 1) 5 1 (.slice Au q.length cu) q.length (q.map (.int .u8)) := hO8
    have hbd : Boxed w8.drew (w.heap.size + 1 + 1 + 1 + 1) 30 (.slice Au q.length cu) := hbx8
    have hrd : RdI w8.drew .u8 (some ⟨w7.heap.size, 0, none⟩) TG := rd_row (w := w8) HI8.out
    have hBd := bD hB8
    have hsd : w.heap.size + 1 + 1 + 1 + 1 + 1 ≤ w8.drew.heap.size := hbx8.lt
    have hqt : ∀ x ∈ q ++ TG, 0 ≤ x ∧ x < 256 := fun x hx => by
      rcases List.mem_append.1 hx with hx | hx
      · exact gq x hx
      · exact hTb x hx
    have hlen : (q ++ TG).length ≤ 1000000 := by rw [List.length_append, HTL.out]; omega
    obtain ⟨QT, hQT⟩ : ∃ QT, q ++ TG = QT := ⟨_, rfl⟩
    rw [hQT] at hqt hlen
    have HQT := Lib.hid hQT
    clear hcB8 hO8 hbx8 hB8 hTb gq hQT
    go_region_held3 (fun w9 => w9.cell? ⟨w.heap.size + 1 + 1 + 1 + 1, 0, none⟩ = some (.slice Au q.length cu)) (assumption) (first | ((rw [if_pos (by rfl)]; refine wpO_app (k := .u8) _ _ 30 rfl (w.heap.size + 1 + 1 + 1 + 1 + 1) 5 i0 (.int .u8 0) 1 Try.underlying30 hi hz0 hz1 hz2 rfl (.slice Au q.length cu) q rfl hod _ 32 TG (by rw [HTL.out]; rfl) hrd ?_ ?_ ?_ ?_; (focus (exact maxLen_ge (by rw [HTL.out]; omega))); (focus (rw [HTL.out]; omega)); (focus (exact hsd)); intro v3 w3 ho3 hg3 _; rw [HQT.out] at ho3; obtain ⟨A3, c3, rfl, x1, x2⟩ := own_slice ho3; have hS3 := (hbd.kept hg3 (hbd.not_row (by decide) hod)).cell; have hB3 := bG hBd hg3 (fun k hk => Nat.le_trans (by omega) (own_ge hod k hk)))) | (go_at_call 34; (with_reducible refine (fortyPut_any A3 c3 QT _ (RdI.of_own ho3) x1 (by unfold maxLen at x2; omega) hlen hqt).mono ?_); rintro e w4 ⟨r, rfl, hro, b4⟩; have hS4 := keep_cell b4 hS3))
    go_wp2
    go_ret2
    have hF := HQ.out
    rw [HV.out, HQT.out] at hF
    exact ⟨r, by rw [hF] <;> rfl, by rw [hF]; exact own_base hro hB3.size, bT hB3 b4⟩
end Go.Proofs.Ytachkhjbckapoaa

namespace Go.Proofs.Ytachkhjbckapoaa
open Go.RowKit
set_option linter.unusedVariables false
set_option maxRecDepth 100000
set_option linter.unusedSimpArgs false

def orB (x b : Int) : Int := ((x.toNat ||| b.toNat : Nat) : Int)
theorem orB_byte {x b : Int} (hx : 0 ≤ x ∧ x < 256) (hb : 0 ≤ b ∧ b < 256) : 0 ≤ orB x b ∧ orB x b < 256 := by
  unfold orB
  have : x.toNat ||| b.toNat < 2 ^ 8 := Nat.or_lt_two_pow (by omega) (by omega)
  omega
theorem orB_zero {x b : Int} (hx : 0 ≤ x ∧ x < 256) (hb : 0 ≤ b ∧ b < 256) : orB x b = 0 ↔ x = 0 ∧ b = 0 := by
  unfold orB
  rw [show ((x.toNat ||| b.toNat : Nat) : Int) = 0 ↔ x.toNat ||| b.toNat = 0 by omega, Nat.or_eq_zero_iff]
  omega
theorem xorB_zero {x b : Int} (hx : 0 ≤ x ∧ x < 256) (hb : 0 ≤ b ∧ b < 256) : xorB x b = 0 ↔ x = b := by
  unfold xorB
  rw [show ((x.toNat ^^^ b.toNat : Nat) : Int) = 0 ↔ x.toNat ^^^ b.toNat = 0 by omega]
  constructor
  · intro h
    have h2 := congrArg (· ^^^ b.toNat) h
    simp [Nat.xor_assoc] at h2
    omega
  · rintro rfl
    simp
theorem wraps_u8 (n : Int) (h0 : 0 ≤ n) (h1 : n < 2 ^ 8) : IntKind.u8.wrap n = n := by rw [IntKind.wrap_u8]; omega
theorem orb8 {x b : Int} (hx : 0 ≤ x ∧ x < 256) (hb : 0 ≤ b ∧ b < 256) : bits .or .u8 x b = orB x b := by
  obtain ⟨a, rfl⟩ := Int.eq_ofNat_of_zero_le hx.1
  obtain ⟨c, rfl⟩ := Int.eq_ofNat_of_zero_le hb.1
  rw [(bits_nat .u8 8 (by decide) wraps_u8 a c (by omega) (by omega)).2]
  unfold orB; simp

theorem look_any (x y v : Int) (g : Nat) (w : World) (hx : 0 ≤ x ∧ x < 256) (hy : 0 ≤ y ∧ y < 256) (hv : 0 ≤ v ∧ v < 256) (hg : Boxed w g 5 (.int .u8 v)) :
    Calls Try.prog 124 #[.int .u8 x, .int .u8 y, .pointer (some ⟨g, 0, none⟩)] w fun e w' => e = .returned (.tuple #[]) ∧ w' = w.setCell ⟨g, 0, none⟩ (.int .u8 (orB v (xorB x y))) := by
  have hc := hg.cell
  have hf := hg.frozen
  have e1 := xor8 hx hy
  have e2 := orb8 hv (xorB_byte hx hy)
  generalize orB v (xorB x y) = r at *
  generalize xorB x y = q at *
  go_enter Try.func124, Try.ntmps124
  go_wp2
  refine bodyPost_end (results_none rfl _ _ _) rfl ?_
  exact ⟨rfl, rfl⟩
theorem pre_step {l m : List Int} {k : Nat} (h1 : k < l.length) (h2 : k < m.length) : l.take (k + 1) = m.take (k + 1) ↔ l.take k = m.take k ∧ l.getD k 0 = m.getD k 0 := by
  rw [List.take_succ_eq_append_getElem h1, List.take_succ_eq_append_getElem h2]
  have e1 : l.getD k 0 = l[k] := by simp [h1]
  have e2 : m.getD k 0 = m[k] := by simp [h2]
  rw [e1, e2]
  constructor
  · intro h
    have := List.append_inj h (by simp; omega)
    exact ⟨this.1, by simpa using this.2⟩
  · rintro ⟨h1, h2⟩
    rw [h1, h2]

theorem keep_set2 {W : World} {a b : Addr} {u v v' : Value} {g : Nat} (h1 : W.cell? a = some u) (h2 : W.cell? b = some v) (n1 : a.block ≠ g) (n2 : b.block ≠ g) : (W.setCell ⟨g, 0, none⟩ v').cell? a = some u ∧ (W.setCell ⟨g, 0, none⟩ v').cell? b = some v :=
  ⟨(World.cell?_setCell_far _ _ _ _ n1.symm).trans h1, (World.cell?_setCell_far _ _ _ _ n2.symm).trans h2⟩

set_option maxHeartbeats 4000000 in
theorem diff_any (A B : Option Addr) (c d : Nat) (l m : List Int) (w : World) (hr : RdI w .u8 A l) (hs : RdI w .u8 B m) (hl : l.length ≤ 9223372036854775807) (hm : m.length ≤ 9223372036854775807) (hlb : ∀ x ∈ l, 0 ≤ x ∧ x < 256) (hmb : ∀ x ∈ m, 0 ≤ x ∧ x < 256) :
    Calls Try.prog 89 #[.slice A l.length c, .slice B m.length d] w fun e w' => (∃ v : Int, e = .returned (.tuple #[.int .u8 v, .bool ((l.length : Int) == m.length)]) ∧ (v = 0 ↔ l.take (min l.length m.length) = m.take (min l.length m.length))) ∧ Below w.heap.size w w' := by
  have hmf : ∀ (fn : Fn) (first cap : Array Value) (w : World), (Instr.makeFunc fn first cap).run Try.prog w = .ok (.func fn first cap) w := fun _ _ _ _ => rfl
  by_cases hle : l.length ≤ m.length
  · have hd1 : (l.length : Int) ≤ (m.length : Int) := by omega
    rw [Nat.min_eq_left hle]
    go_enter Try.func89, Try.ntmps89
    go_wp2
    go_loopw [8, 15] (fun j i wr => ∃ (k : Nat) (v : Int), k ≤ l.length ∧ i = .int .i64 k ∧ Boxed wr w.heap.size 5 (.int .u8 v) ∧ 0 ≤ v ∧ v < 256 ∧ Hid (v = 0 ↔ l.take k = m.take k) ∧ Below w.heap.size w wr) (fun _ i _ => l.length - (intOf i).toNat)
    case atStart => exact ⟨0, 0, Nat.zero_le _, rfl, Boxed.new _ _ _, by omega, by omega, Lib.hid (by simp), bel1 _ _⟩
    case round =>
      obtain ⟨k, v, hk, rfl, hv, hv0, hv1, hg, hbW⟩ := hrel
      by_cases hlt : k < l.length
      · obtain ⟨ad, rfl, hcw⟩ := hr.at_ (show k < l.length by omega)
        obtain ⟨bd, rfl, hdw⟩ := hs.at_ (show k < m.length by omega)
        have na : (ad.add k).block ≠ w.heap.size := Nat.ne_of_lt (World.block_lt_of_cell? w _ hcw)
        have nb : (bd.add k).block ≠ w.heap.size := Nat.ne_of_lt (World.block_lt_of_cell? w _ hdw)
        have hc := keep_cell hbW hcw
        have hd := keep_cell hbW hdw
        have hvd : Boxed wr.drew w.heap.size 5 (.int .u8 v) := hv
        have hx := hlb _ (getD_mem (l := l) (k := k) (by omega))
        have hy := hmb _ (getD_mem (l := m) (k := k) (by omega))
        have hst := pre_step (l := l) (m := m) (k := k) (by omega) (by omega)
        clear hcw hdw
        generalize l.getD k 0 = x at *
        generalize m.getD k 0 = y at *
        have hnew : orB v (xorB x y) = 0 ↔ l.take (k + 1) = m.take (k + 1) := by
          rw [hst, orB_zero ⟨hv0, hv1⟩ (xorB_byte hx hy), xorB_zero hx hy, hg.out]
        have hob := orB_byte ⟨hv0, hv1⟩ (xorB_byte hx hy)
        have HNEW := Lib.hid hnew
        have HOB := Lib.hid hob
        clear hst hg hnew hob
        have k0 : (0 : Int) ≤ (k : Int) := by omega
        have k1 : (k : Int) < (l.length : Int) := by omega
        have k2 : (k : Int) < (m.length : Int) := by omega
        go_wp2
        go_region_held3 (fun w9 => w9.cell? (ad.add k) = some (.int .u8 x) ∧ w9.cell? (bd.add k) = some (.int .u8 y)) (first | assumption | exact ⟨hc, hd⟩ | exact hHeld2)
          (first | (go_at_call 124; (with_reducible refine (look_any x y v _ _ hx hy ⟨hv0, hv1⟩ hvd).mono ?_); rintro e w' ⟨rfl, rfl⟩; have hHeld2 := keep_set2 (W := wr.drew) (g := w.heap.size) (v' := .int .u8 (orB v (xorB x y))) hc hd na nb))
        go_wp2
        exact ⟨⟨k + 1, _, by omega, by go_num, hv.set _, HOB.out.1, HOB.out.2, HNEW, bD (bS hbW (Nat.le_refl _))⟩, by simp [intOf]; omega⟩
      · obtain rfl : k = l.length := by omega
        have hcv := hv.cell
        have HG := hg
        clear hg
        go_wp2
        go_ret2
        exact ⟨⟨v, rfl, HG.out⟩, hbW⟩
  · have hd1 : ¬ (l.length : Int) ≤ (m.length : Int) := by omega
    have hd2 : (m.length : Int) ≤ (l.length : Int) := by omega
    rw [Nat.min_eq_right (by omega)]
    go_enter Try.func89, Try.ntmps89
    go_wp2
    go_loopw [8, 15] (fun j i wr => ∃ (k : Nat) (v : Int), k ≤ m.length ∧ i = .int .i64 k ∧ Boxed wr w.heap.size 5 (.int .u8 v) ∧ 0 ≤ v ∧ v < 256 ∧ Hid (v = 0 ↔ l.take k = m.take k) ∧ Below w.heap.size w wr) (fun _ i _ => m.length - (intOf i).toNat)
    case atStart => exact ⟨0, 0, Nat.zero_le _, rfl, Boxed.new _ _ _, by omega, by omega, Lib.hid (by simp), bel1 _ _⟩
    case round =>
      obtain ⟨k, v, hk, rfl, hv, hv0, hv1, hg, hbW⟩ := hrel
      by_cases hlt : k < m.length
      · obtain ⟨ad, rfl, hcw⟩ := hr.at_ (show k < l.length by omega)
        obtain ⟨bd, rfl, hdw⟩ := hs.at_ (show k < m.length by omega)
        have na : (ad.add k).block ≠ w.heap.size := Nat.ne_of_lt (World.block_lt_of_cell? w _ hcw)
        have nb : (bd.add k).block ≠ w.heap.size := Nat.ne_of_lt (World.block_lt_of_cell? w _ hdw)
        have hc := keep_cell hbW hcw
        have hd := keep_cell hbW hdw
        have hvd : Boxed wr.drew w.heap.size 5 (.int .u8 v) := hv
        have hx := hlb _ (getD_mem (l := l) (k := k) (by omega))
        have hy := hmb _ (getD_mem (l := m) (k := k) (by omega))
        have hst := pre_step (l := l) (m := m) (k := k) (by omega) (by omega)
        clear hcw hdw
        generalize l.getD k 0 = x at *
        generalize m.getD k 0 = y at *
        have hnew : orB v (xorB x y) = 0 ↔ l.take (k + 1) = m.take (k + 1) := by
          rw [hst, orB_zero ⟨hv0, hv1⟩ (xorB_byte hx hy), xorB_zero hx hy, hg.out]
        have hob := orB_byte ⟨hv0, hv1⟩ (xorB_byte hx hy)
        have HNEW := Lib.hid hnew
        have HOB := Lib.hid hob
        clear hst hg hnew hob
        have k0 : (0 : Int) ≤ (k : Int) := by omega
        have k1 : (k : Int) < (l.length : Int) := by omega
        have k2 : (k : Int) < (m.length : Int) := by omega
        go_wp2
        go_region_held3 (fun w9 => w9.cell? (ad.add k) = some (.int .u8 x) ∧ w9.cell? (bd.add k) = some (.int .u8 y)) (first | assumption | exact ⟨hc, hd⟩ | exact hHeld2)
          (first | (go_at_call 124; (with_reducible refine (look_any x y v _ _ hx hy ⟨hv0, hv1⟩ hvd).mono ?_); rintro e w' ⟨rfl, rfl⟩; have hHeld2 := keep_set2 (W := wr.drew) (g := w.heap.size) (v' := .int .u8 (orB v (xorB x y))) hc hd na nb))
        go_wp2
        exact ⟨⟨k + 1, _, by omega, by go_num, hv.set _, HOB.out.1, HOB.out.2, HNEW, bD (bS hbW (Nat.le_refl _))⟩, by simp [intOf]; omega⟩
      · obtain rfl : k = m.length := by omega
        have hcv := hv.cell
        have HG := hg
        clear hg
        go_wp2
        go_ret2
        exact ⟨⟨v, rfl, HG.out⟩, hbW⟩

theorem sealSame_any (A B : Option Addr) (c d : Nat) (l m : List Int) (w : World) (hr : RdI w .u8 A l) (hs : RdI w .u8 B m) (hl : l.length ≤ 9223372036854775807) (hm : m.length ≤ 9223372036854775807) (hlb : ∀ x ∈ l, 0 ≤ x ∧ x < 256) (hmb : ∀ x ∈ m, 0 ≤ x ∧ x < 256) :
    Calls Try.prog 46 #[.slice A l.length c, .slice B m.length d] w fun e w' => e = .returned (.bool (l == m)) ∧ Below w.heap.size w w' := by
  by_cases hlen : l.length = m.length
  · have hq : ((l.length : Int) == (m.length : Int)) = true := by rw [beq_iff_eq]; omega
    have E : ∀ v : Int, (v = 0 ↔ l.take (min l.length m.length) = m.take (min l.length m.length)) → (l == m) = (v == 0) := by
      intro v hv
      rw [show min l.length m.length = l.length by omega, List.take_length, List.take_of_length_le (by omega)] at hv
      rw [Bool.eq_iff_iff, beq_iff_eq, beq_iff_eq]
      exact hv.symm
    have E2 := Lib.hid E
    clear E hlen
    go_enter Try.func46, Try.ntmps46
    go_wp2_with (go_at_call 89; (with_reducible refine (diff_any _ _ _ _ l m _ hr hs hl hm hlb hmb).mono ?_); rintro e w' ⟨⟨v, rfl, hv⟩, hb⟩; have HV := Lib.hid (E2.out v hv); clear hv)
    go_ret
    exact ⟨by rw [HV.out] <;> rfl, hb⟩
  · have hq : ((l.length : Int) == (m.length : Int)) = false := by rw [beq_eq_false_iff_ne]; omega
    have E := Lib.hid (show (l == m) = false by rw [beq_eq_false_iff_ne]; intro h; exact hlen (congrArg List.length h))
    clear hlen
    go_enter Try.func46, Try.ntmps46
    go_wp2_with (go_at_call 89; (with_reducible refine (diff_any _ _ _ _ l m _ hr hs hl hm hlb hmb).mono ?_); rintro e w' ⟨⟨v, rfl, hv⟩, hb⟩; clear hv)
    go_ret
    exact ⟨by rw [E.out] <;> rfl, hb⟩
end Go.Proofs.Ytachkhjbckapoaa

namespace Go.Proofs.Ytachkhjbckapoaa
open Go.RowKit
set_option linter.unusedVariables false
set_option maxRecDepth 100000
set_option linter.unusedSimpArgs false

theorem fgGo_len : ∀ (q : List Fd) (l : List Int) (la : Int), (fgGo q l la).1.length = l.length
  | [], l, la => rfl
  | f :: q, l, la => by
    rw [fgGo_cons]
    split
    · rfl
    split
    · rfl
    split
    · rfl
    · rw [fgGo_len]; simp
theorem fgEnd_len {l : List Int} (h : l.length = 15) (la : Int) : (fgEnd l la).1.length = 15 := by
  unfold fgEnd
  split
  · rfl
  split
  · split
    · rfl
    · exact h
  split
  · rfl
  split
  · rfl
  · simpa using h
theorem fgE_len (q : List Fd) : (fgE q).1.length = 15 := by
  unfold fgE
  split
  · split
    · rfl
    · exact fgEnd_len (by rw [fgGo_len]; rfl) _
  · rfl
theorem fgE_tlv {q : List Fd} (h : (fgE q).2 = 0) : tlvB 0 q = true := by
  unfold fgE at h
  split at h
  · assumption
  · simp at h
theorem body_short {b : List Int} {q : List Fd} (h : tlvGet b = (q, 0)) (hb : ∀ x ∈ b, 0 ≤ x ∧ x < 256) : b.length ≤ 65535 := by
  obtain ⟨h1, h2⟩ := tlvPut_get h hb
  obtain ⟨t3, t4⟩ := tlvB_facts _ 0 h2 (by omega)
  rw [← h1]
  have := putF_len q (fun f hf => (t4 f hf).2.2)
  omega
/-- The variables that the steps share, from block N on; base is the world behind open. -/
def DecM (L N : Nat) (bv' tv fv : Value) (rcs kcs gcs : Array Value) (base W : World) : Prop :=
  Boxed W N 30 bv' ∧ Boxed W (N + 1) 30 tv ∧ Boxed W (N + 1 + 1) 50 fv ∧ W.heap[N + 1 + 1 + 1]? = some (.cells rcs 28 (0, 0)) ∧ W.heap[N + 1 + 1 + 1 + 1]? = some (.cells kcs 49 (0, 0)) ∧ W.heap[N + 1 + 1 + 1 + 1 + 1]? = some (.cells gcs 54 (0, 0)) ∧ Below base.heap.size base W ∧ base.heap.size ≤ N
theorem DecM.below {L N : Nat} {bv' tv fv : Value} {rcs kcs gcs : Array Value} {base W W' : World} (h : DecM L N bv' tv fv rcs kcs gcs base W) (hb : Below W.heap.size W W') : DecM L N bv' tv fv rcs kcs gcs base W' := by
  obtain ⟨h1, h2, h3, h4, h5, h6, h7, h8⟩ := h
  have K : ∀ {b : Nat} {o : Obj}, W.heap[b]? = some o → W'.heap[b]? = some o := fun h => (hb.block _ (Array.getElem?_eq_some_iff.1 h).1).trans h
  exact ⟨K h1, K h2, K h3, K h4, K h5, K h6, bT h7 hb, h8⟩
theorem DecM.setR {L N : Nat} {bv' tv fv : Value} {rcs kcs gcs : Array Value} {base W : World} (h : DecM L N bv' tv fv rcs kcs gcs base W) (cs : Array Value) : DecM L N bv' tv fv cs kcs gcs base (W.setRow (N + 1 + 1 + 1) cs) := by
  obtain ⟨h1, h2, h3, h4, h5, h6, h7, h8⟩ := h
  have K : ∀ {b : Nat}, b ≠ N + 1 + 1 + 1 → (W.setRow (N + 1 + 1 + 1) cs).heap[b]? = W.heap[b]? := fun h => setRow_other W _ _ cs h
  exact ⟨(K (by omega)).trans h1, (K (by omega)).trans h2, (K (by omega)).trans h3, setRow_heap _ _ _ _ _ _ h4, (K (by omega)).trans h5, (K (by omega)).trans h6, setRow_below h7 (by omega), h8⟩
theorem DecM.setK {L N : Nat} {bv' tv fv : Value} {rcs kcs gcs : Array Value} {base W : World} (h : DecM L N bv' tv fv rcs kcs gcs base W) (cs : Array Value) : DecM L N bv' tv fv rcs cs gcs base (W.setRow (N + 1 + 1 + 1 + 1) cs) := by
  obtain ⟨h1, h2, h3, h4, h5, h6, h7, h8⟩ := h
  have K : ∀ {b : Nat}, b ≠ N + 1 + 1 + 1 + 1 → (W.setRow (N + 1 + 1 + 1 + 1) cs).heap[b]? = W.heap[b]? := fun h => setRow_other W _ _ cs h
  exact ⟨(K (by omega)).trans h1, (K (by omega)).trans h2, (K (by omega)).trans h3, (K (by omega)).trans h4, setRow_heap _ _ _ _ _ _ h5, (K (by omega)).trans h6, setRow_below h7 (by omega), h8⟩

set_option maxHeartbeats 4000000 in
theorem dec1_any (L N : Nat) (bv' tv : Value) (A : Option Addr) (c : Nat) (q : List Fd) (rcs kcs gcs : Array Value) (hr15 : rcs.size = 15) (base W : World) (hF : RdF base A q) (hl : q.length ≤ 9223372036854775807) (hM : DecM L N bv' tv (.slice A q.length c) rcs kcs gcs base W) :
    Calls Try.prog 42 #[.pointer (some ⟨N + 1 + 1, 0, none⟩), .pointer (some ⟨N + 1 + 1 + 1, 0, none⟩)] W fun e W' => e = .returned (.int .i64 (fgE q).2) ∧ DecM L N bv' tv (.slice A q.length c) (iv (fgE q).1).toArray kcs gcs base W' := by
  have hG := fieldsGet_any A c q W (hF.below hM.2.2.2.2.2.2.1 (Nat.le_refl _)) hl
  have hcF := hM.2.2.1.cell
  have hlen := fgE_len q
  generalize fgE q = r at *
  have HM := Lib.hid hM
  have HL := Lib.hid hlen
  clear hM hlen
  go_enter Try.func42, Try.ntmps42
  go_wp2_with (first | (go_at_call 43; (with_reducible refine hG.mono ?_); rintro e w1 ⟨rfl, hb1⟩; have hM1 := HM.out.below hb1; have hR1 := hM1.2.2.2.1; have HM1 := Lib.hid hM1; clear hM1) | (refine wpList_store_row rfl 28 _ _ rfl (N + 1 + 1 + 1) (iv r.1).toArray rfl rfl 28 _ hR1 ?_ ?_ ?_ ?_; (focus (rw [List.size_toArray, iv_len, HL.out]; exact infoR)); (focus (rw [hr15, List.size_toArray, iv_len, HL.out])); (focus (exact all_one (iv_one _)))))
  go_ret
  exact ⟨rfl, HM1.out.setR _⟩
set_option maxHeartbeats 4000000 in
theorem dec2_any (L N : Nat) (bv' tv fv : Value) (A : Option Addr) (c : Nat) (ks : List Ky) (l : List Int) (hl15 : l.length = 15) (kcs gcs : Array Value) (hk4 : kcs.size = 4) (base W : World) (hr : RdK base A ks) (hl : ks.length ≤ 9223372036854775807) (hL : Boxed base L 22 (.slice A ks.length c)) (hM : DecM L N bv' tv fv (iv l).toArray kcs gcs base W) :
    Calls Try.prog 44 #[.pointer (some ⟨L, 0, none⟩), .pointer (some ⟨N + 1 + 1 + 1, 0, none⟩), .pointer (some ⟨N + 1 + 1 + 1 + 1, 0, none⟩)] W fun e W' => ∃ (Bk : Option Addr) (ck : Nat), e = .returned (.int .i64 (findE ks (l.getD 11 0)).2) ∧
      (∀ k, (findE ks (l.getD 11 0)).1 = some k → k.sec.length ≤ ck ∧ ck ≤ 9223372036854775807 ∧ RdI base .u8 Bk k.sec ∧ (∀ x ∈ k.sec, 0 ≤ x ∧ x < 256) ∧ rightB k = true ∧ k.id = l.getD 11 0) ∧ DecM L N bv' tv fv (iv l).toArray (keyC (findE ks (l.getD 11 0)).1 Bk ck) gcs base W' := by
  have hF := fun W hW => ringFind_any A c ks (l.getD 11 0) base W hr hW hl
  have hc1 := (boxed_below hL hM.2.2.2.2.2.2.1).cell
  have hcR := row_iv hM.2.2.2.1 (j := 11) (by omega)
  have hb0 := hM.2.2.2.2.2.2.1
  have HM := Lib.hid hM
  clear hM
  generalize l.getD 11 0 = id at *
  go_enter Try.func44, Try.ntmps44
  go_wp2_with (first | (go_at_call 31; (with_reducible refine (hF _ hb0).mono ?_); rintro e w2 ⟨⟨Bk, ck, rfl, hkk⟩, hb2⟩; rw [keyV_eq]; have hM2 := HM.out.below hb2; have hKr := hM2.2.2.2.2.1; have HM2 := Lib.hid hM2; have HK := Lib.hid hkk; clear hM2 hkk hb2) | (refine wpList_store_row rfl 49 _ _ rfl (N + 1 + 1 + 1 + 1) (keyC (findE ks id).1 Bk ck) rfl rfl 49 _ hKr ?_ ?_ ?_ ?_; (focus (rw [keyC_size]; exact infoK)); (focus (rw [keyC_size, hk4])); (focus (exact keyC_one _ _ _))))
  go_ret
  exact ⟨Bk, ck, rfl, HK.out, HM2.out.setK _⟩
end Go.Proofs.Ytachkhjbckapoaa

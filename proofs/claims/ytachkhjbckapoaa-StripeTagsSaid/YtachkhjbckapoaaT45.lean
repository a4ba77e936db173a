/- Layer 19: what barcode.Encode computes. Layer 19: the three steps of barcode.Decode, each by itself. Layer 19: the third step of barcode.Decode. Layer 19: what barcode.Decode computes. Layer 5, plain: a ring with a key more, and what it finds. No condition. -/
import Derived.Test.YtachkhjbckapoaaT32
import Derived.Test.YtachkhjbckapoaaT18
import Derived.Test.YtachkhjbckapoaaT43
import Derived.Test.YtachkhjbckapoaaT44
import Derived.Test.YtachkhjbckapoaaT19
import Derived.Test.YtachkhjbckapoaaT13
namespace Go.Proofs.Ytachkhjbckapoaa
open Go.RowKit
set_option linter.unusedVariables false
set_option maxRecDepth 100000
set_option linter.unusedSimpArgs false

theorem putF_len : ∀ (l : List Fd), (∀ f ∈ l, f.val.length ≤ 255) → (putF l).length ≤ 257 * l.length
  | [], _ => by simp [putF]
  | f :: t, h => by
    have h1 := h f (by simp)
    have h2 := putF_len t (fun x hx => h x (by simp [hx]))
    rw [putF_cons]
    simp only [List.length_cons, List.length_append]
    omega
theorem putF_byte : ∀ (l : List Fd), (∀ f ∈ l, (0 ≤ f.tag ∧ f.tag ≤ 255) ∧ f.val.length ≤ 255 ∧ ∀ x ∈ f.val, 0 ≤ x ∧ x < 256) → ∀ x ∈ putF l, 0 ≤ x ∧ x < 256
  | [], _, x, hx => by simp [putF] at hx
  | f :: t, h, x, hx => by
    obtain ⟨h1, h2, h3⟩ := h f (by simp)
    rw [putF_cons] at hx
    rcases List.mem_cons.1 hx with rfl | hx
    · omega
    rcases List.mem_cons.1 hx with rfl | hx
    · omega
    rcases List.mem_append.1 hx with hx | hx
    · exact h3 x hx
    · exact putF_byte t (fun y hy => h y (by simp [hy])) x hx
def kz : Array Value := #[.int .i64 0, .slice none 0 0, .int .i64 0, .int .i64 0]
def encG (N : Nat) : Array Value := #[.func (.func 27) #[] #[.pointer (some ⟨N, 0, none⟩), .pointer (some ⟨N + 1, 0, none⟩), .pointer (some ⟨N + 1 + 1, 0, none⟩)], .func (.func 30) #[] #[.pointer (some ⟨N, 0, none⟩), .pointer (some ⟨N + 1, 0, none⟩), .pointer (some ⟨N + 1 + 1 + 1, 0, none⟩)], .func (.func 32) #[] #[.pointer (some ⟨N + 1 + 1, 0, none⟩), .pointer (some ⟨N + 1 + 1 + 1 + 1, 0, none⟩)]]
def EncA (N : Nat) (lv : Value) (rcs : Array Value) (fv : Value) (kcs : Array Value) (bvv : Value) (W : World) : Prop := EncM N (N + 1) (N + 1 + 1) (N + 1 + 1 + 1) (N + 1 + 1 + 1 + 1) (N + 1 + 1 + 1 + 1 + 1) (encG N) lv rcs fv kcs bvv W
def EncP (ks : List Ky) (l : List Int) (lv : Value) (rcs : Array Value) (w : World) : Nat → World → Prop
  | 0, W => EncA w.heap.size lv rcs (.slice none 0 0) kz (.slice none 0 0) W ∧ Below w.heap.size w W
  | 1, W => ∃ (v : Value) (Lf : List Fv), (Lf.map (·.f) = (encF ks l).1 ∧ (encF ks l).2 = 0) ∧ EncA w.heap.size lv rcs v kz (.slice none 0 0) W ∧ OwnF (w.heap.size + 1 + 1 + 1 + 1 + 1) W v Lf ∧ Below w.heap.size w W
  | 2, W => ∃ (v : Value) (Lf : List Fv) (k : Ky) (Bk : Option Addr) (ck : Nat), (Lf.map (·.f) = (encF ks l).1 ∧ (encF ks l).2 = 0) ∧ EncA w.heap.size lv rcs v (keyC (some k) Bk ck) (.slice none 0 0) W ∧ OwnF (w.heap.size + 1 + 1 + 1 + 1 + 1) W v Lf ∧ Below w.heap.size w W ∧
      ((findE ks (l.getD 11 0)) = (some k, 0) ∧ k.sec.length ≤ ck ∧ ck ≤ 9223372036854775807 ∧ RdI w .u8 Bk k.sec ∧ (∀ x ∈ k.sec, 0 ≤ x ∧ x < 256) ∧ rightB k = true)
  | 3, W => ∃ (v u : Value) (k : Ky) (Bk : Option Addr) (ck : Nat), ((encF ks l).2 = 0 ∧ (putE17 (encF ks l).1).2 = 0 ∧ ∀ x ∈ (putE17 (encF ks l).1).1, 0 ≤ x ∧ x < 256) ∧ EncA w.heap.size lv rcs v (keyC (some k) Bk ck) u W ∧ W.ownsRow (w.heap.size + 1 + 1 + 1 + 1 + 1) 5 1 u (putE17 (encF ks l).1).1.length ((putE17 (encF ks l).1).1.map (.int .u8)) ∧ Below w.heap.size w W ∧
      ((findE ks (l.getD 11 0)) = (some k, 0) ∧ k.sec.length ≤ ck ∧ ck ≤ 9223372036854775807 ∧ RdI w .u8 Bk k.sec ∧ (∀ x ∈ k.sec, 0 ≤ x ∧ x < 256) ∧ rightB k = true)
  | _, _ => False
theorem findE_some {ks : List Ky} {id : Int} {k : Ky} (h : (findE ks id).1 = some k) : findE ks id = (some k, 0) := by
  unfold findE at h ⊢
  split at h
  · cases h
  · rename_i g
    rw [if_neg g]
    split at h
    · rename_i g2
      rw [if_pos g2]
      split at h
      · rename_i q hq
        have h : some q = some k := h
        rw [h]
      · cases h
    · cases h
theorem findE_none {ks : List Ky} {id : Int} (h : (findE ks id).1 = none) : (findE ks id).2 ≠ 0 := by
  unfold findE at h ⊢
  split at h
  · rename_i g
    rw [if_pos g]; simp
  · rename_i g
    rw [if_neg g]
    split at h
    · rename_i g2
      rw [if_pos g2]
      split at h
      · cases h
      · rename_i hq
        simp
    · rename_i g2
      rw [if_neg g2]; simp
theorem encA_func {N k : Nat} {lv fv bvv : Value} {rcs kcs : Array Value} {W : World} (h : EncA N lv rcs fv kcs bvv W) : W.cell? ⟨N + 1 + 1 + 1 + 1 + 1, k, none⟩ = (encG N)[k]? := cell_of_row _ _ k _ _ _ h.2.2.2.2.2
theorem encP_func {ks : List Ky} {l : List Int} {lv : Value} {rcs : Array Value} {w : World} (n : Nat) (W : World) (h : EncP ks l lv rcs w n W) (k : Nat) : W.cell? ⟨w.heap.size + 1 + 1 + 1 + 1 + 1, k, none⟩ = (encG w.heap.size)[k]? := by
  match n, h with
  | 0, h => exact encA_func h.1
  | 1, ⟨_, _, _, h, _⟩ => exact encA_func h
  | 2, ⟨_, _, _, _, _, _, h, _⟩ => exact encA_func h
  | 3, ⟨_, _, _, _, _, _, h, _⟩ => exact encA_func h
theorem tlvB_vals {l : List Fd} (h : (putE17 l).2 = 0) : tlvB 0 l = true ∧ putE17 l = (putF l, 0) := by
  unfold putE17 at h ⊢
  cases g : tlvB 0 l with
  | true => simp
  | false => rw [g] at h; simp at h

theorem boxed_below {W W' : World} {B : Nat} {t : TypeId} {v : Value} (h : Boxed W B t v) (hb : Below W.heap.size W W') : Boxed W' B t v := (hb.block _ h.lt).trans h
/-- The three steps of Encode, one behind the other. -/
theorem encSteps_any (A : Option Addr) (c : Nat) (ks : List Ky) (a0 a1 a2 a3 a4 a5 a6 a7 a8 a9 a10 a11 a12 a13 a14 : Int) (w W : World) (hr : RdK w A ks) (hl : ks.length ≤ 9223372036854775807)
    (h0 : EncP ks [a0, a1, a2, a3, a4, a5, a6, a7, a8, a9, a10, a11, a12, a13, a14] (.slice A ks.length c) #[.int .i64 a0, .int .i64 a1, .int .i64 a2, .int .i64 a3, .int .i64 a4, .int .i64 a5, .int .i64 a6, .int .i64 a7, .int .i64 a8, .int .i64 a9, .int .i64 a10, .int .i64 a11, .int .i64 a12, .int .i64 a13, .int .i64 a14] w 0 W) :
    Calls Try.prog 26 #[.slice (some ⟨w.heap.size + 1 + 1 + 1 + 1 + 1, 0, none⟩) 3 3] W
      (StepRet (EncP ks [a0, a1, a2, a3, a4, a5, a6, a7, a8, a9, a10, a11, a12, a13, a14] (.slice A ks.length c) #[.int .i64 a0, .int .i64 a1, .int .i64 a2, .int .i64 a3, .int .i64 a4, .int .i64 a5, .int .i64 a6, .int .i64 a7, .int .i64 a8, .int .i64 a9, .int .i64 a10, .int .i64 a11, .int .i64 a12, .int .i64 a13, .int .i64 a14] w 3) (fun z W' => Below w.heap.size w W' ∧ encE ks [a0, a1, a2, a3, a4, a5, a6, a7, a8, a9, a10, a11, a12, a13, a14] = ([], z))) := by
  obtain ⟨l, hL⟩ : ∃ l, [a0, a1, a2, a3, a4, a5, a6, a7, a8, a9, a10, a11, a12, a13, a14] = l := ⟨_, rfl⟩
  have h11 : l.getD 11 0 = a11 := by rw [← hL]; rfl
  have hE1 := fun L R F K B G gcs ho kcs bvv W hb hl0 hM => enc1_any L R F K B G gcs ho A c ks a0 a1 a2 a3 a4 a5 a6 a7 a8 a9 a10 a11 a12 a13 a14 kcs bvv w W hr hl hb hl0 hM
  have hE2 := fun L R F K B G gcs ho fv Lf kcs hk bvv W hb hl0 hM hO => enc2_any L R F K B G gcs ho A c ks a0 a1 a2 a3 a4 a5 a6 a7 a8 a9 a10 a11 a12 a13 a14 fv Lf kcs hk bvv w W hr hl hb hl0 hM hO
  rw [hL] at h0 hE1 ⊢
  refine steps_any _ 27 30 32 _ _ _ _ _ W h0 (fun k W' h => ⟨encP_func k W' h 0, encP_func k W' h 1, encP_func k W' h 2⟩) (fun _ => rfl) (fun _ => rfl) (fun _ => rfl) ?_ ?_ ?_
  · rintro W' ⟨hM, hb⟩
    refine (hE1 _ _ _ _ _ _ _ ⟨by omega, by omega, by omega, by omega, by omega⟩ _ _ W' hb (Nat.le_refl _) hM).mono ?_
    rintro e W2 ⟨v, Lf, rfl, hLf, hM2, hO, hb2⟩
    refine ⟨_, rfl, fun hz => ⟨v, Lf, ⟨hLf, hz⟩, hM2, hO, hb2⟩, fun hz => ⟨hb2, ?_⟩⟩
    unfold encE
    rw [if_pos hz]
  · rintro W' ⟨v, Lf, ⟨hLf, hz⟩, hM, hO, hb⟩
    refine (hE2 _ _ _ _ _ _ _ ⟨by omega, by omega, by omega, by omega, by omega⟩ v Lf _ rfl _ W' hb (Nat.le_refl _) hM hO).mono ?_
    rintro e W2 ⟨Bk, ck, rfl, hk, hM2, hO2, hb2⟩
    refine ⟨_, rfl, fun hz2 => ?_, fun hz2 => ⟨hb2, ?_⟩⟩
    · cases hf : (findE ks a11).1 with
      | none => exact absurd hz2 (findE_none hf)
      | some k =>
        rw [hf] at hM2
        obtain ⟨k1, k2, k3, k4, k5, k6⟩ := hk k hf
        exact ⟨v, Lf, k, Bk, ck, ⟨hLf, hz⟩, hM2, hO2, hb2, by rw [h11]; exact findE_some hf, k1, k2, k3, k4, k5⟩
    · unfold encE
      rw [if_neg (by omega), h11]
      cases hf : (findE ks a11).1 with
      | none =>
        rw [show findE ks a11 = (none, (findE ks a11).2) by rw [← hf]]
      | some k =>
        have := findE_some hf
        rw [this] at hz2
        exact absurd rfl hz2
  · rintro W' ⟨v, Lf, k, Bk, ck, ⟨hLf, hz⟩, hM, hO, hb, hk⟩
    refine (enc3_any _ _ _ _ _ _ _ ⟨by omega, by omega, by omega, by omega, by omega⟩ _ _ v Lf _ w W' hb (Nat.le_refl _) hM hO).mono ?_
    rintro e W2 ⟨u, rfl, hM2, ho2, hb2⟩
    rw [hLf] at ho2 ⊢
    refine ⟨_, rfl, fun hz2 => ⟨v, u, k, Bk, ck, ⟨hz, hz2, ?_⟩, hM2, ho2, hb2, hk⟩, fun hz2 => ⟨hb2, ?_⟩⟩
    · obtain ⟨t1, t2⟩ := tlvB_vals hz2
      rw [t2]
      obtain ⟨_, t3⟩ := tlvB_facts _ 0 t1 (by omega)
      rw [← hLf] at t3 ⊢
      refine putF_byte _ (fun f hf => ?_)
      obtain ⟨x, hx, rfl⟩ := List.mem_map.1 hf
      have h3 := t3 x.f hf
      exact ⟨⟨by omega, by omega⟩, h3.2.2, (hO.2 x hx).2.2.2.1⟩
    · unfold encE
      rw [if_neg (by omega), hk.1]
      simp only
      rw [if_pos hz2]

theorem enc_start (w : World) (lv : Value) (rcs : Array Value) : EncA w.heap.size lv rcs (.slice none 0 0) kz (.slice none 0 0) ((((((w.alloc (.cells #[lv] 22)).alloc (.cells rcs 28)).alloc (.cells #[.slice none 0 0] 50)).alloc (.cells kz 49)).alloc (.cells #[.slice none 0 0] 30)).alloc (.cells (encG w.heap.size) 54)) ∧ Below w.heap.size w ((((((w.alloc (.cells #[lv] 22)).alloc (.cells rcs 28)).alloc (.cells #[.slice none 0 0] 50)).alloc (.cells kz 49)).alloc (.cells #[.slice none 0 0] 30)).alloc (.cells (encG w.heap.size) 54)) := by
  have N : ∀ {W W' : World} {b : Nat} {o : Obj}, Below W.heap.size W W' → W.heap[b]? = some o → W'.heap[b]? = some o := fun hb h => (hb.block _ (Array.getElem?_eq_some_iff.1 h).1).trans h
  obtain ⟨w1, e1, h1, b1, z1⟩ := new_block w (.cells #[lv] 22)
  rw [e1]
  obtain ⟨w2, e2, h2, b2, z2⟩ := new_block w1 (.cells rcs 28)
  rw [e2]
  obtain ⟨w3, e3, h3, b3, z3⟩ := new_block w2 (.cells #[.slice none 0 0] 50)
  rw [e3]
  obtain ⟨w4, e4, h4, b4, z4⟩ := new_block w3 (.cells kz 49)
  rw [e4]
  obtain ⟨w5, e5, h5, b5, z5⟩ := new_block w4 (.cells #[.slice none 0 0] 30)
  rw [e5]
  obtain ⟨w6, e6, h6, b6, z6⟩ := new_block w5 (.cells (encG w.heap.size) 54)
  rw [e6]
  rw [z1] at h2 z2
  rw [z2] at h3 z3
  rw [z3] at h4 z4
  rw [z4] at h5 z5
  rw [z5] at h6
  exact ⟨⟨N b6 (N b5 (N b4 (N b3 (N b2 h1)))), N b6 (N b5 (N b4 (N b3 h2))), N b6 (N b5 (N b4 h3)), N b6 (N b5 h4), N b6 h5, h6⟩, bT (bT (bT (bT (bT b1 b2) b3) b4) b5) b6⟩
theorem encE_ok {ks : List Ky} {l : List Int} {k : Ky} (h1 : (encF ks l).2 = 0) (h2 : findE ks (l.getD 11 0) = (some k, 0)) (h3 : (putE17 (encF ks l).1).2 = 0) :
    encE ks l = (fortyPut ((putE17 (encF ks l).1).1 ++ tagN k.sec (66 :: (putE17 (encF ks l).1).1)), 0) := by
  obtain ⟨_, t2⟩ := tlvB_vals h3
  unfold encE
  rw [if_neg (by omega), h2]
  simp only
  rw [if_neg (by omega), t2]

theorem rightB_len {k : Ky} (h : rightB k = true) : 1 ≤ k.sec.length ∧ k.sec.length ≤ 64 := by
  unfold rightB at h
  simp only [Bool.and_eq_true, decide_eq_true_eq] at h
  exact h.1.2
theorem putE_len {l : List Fd} (h : (putE17 l).2 = 0) : (putE17 l).1.length ≤ 65535 := by
  obtain ⟨t1, t2⟩ := tlvB_vals h
  obtain ⟨t3, t4⟩ := tlvB_facts _ 0 t1 (by omega)
  rw [t2]
  have := putF_len l (fun f hf => (t4 f hf).2.2)
  show (putF l).length ≤ 65535
  omega
set_option maxHeartbeats 8000000 in
set_option maxRecDepth 100000 in
theorem bcEncode_any (A : Option Addr) (c : Nat) (ks : List Ky) (a0 a1 a2 a3 a4 a5 a6 a7 a8 a9 a10 a11 a12 a13 a14 : Int) (w : World) (hr : RdK w A ks) (hl : ks.length ≤ 9223372036854775807) :
    Calls Try.prog 9 #[.slice A ks.length c, .agg #[.int .i64 a0, .int .i64 a1, .int .i64 a2, .int .i64 a3, .int .i64 a4, .int .i64 a5, .int .i64 a6, .int .i64 a7, .int .i64 a8, .int .i64 a9, .int .i64 a10, .int .i64 a11, .int .i64 a12, .int .i64 a13, .int .i64 a14]] w (ByteRetE (encE ks [a0, a1, a2, a3, a4, a5, a6, a7, a8, a9, a10, a11, a12, a13, a14]) w) := by
  obtain ⟨i0, hi, hz0, hz1, hz2⟩ := info_parts infoB8
  have hmf : ∀ (fn : Fn) (first cap : Array Value) (w : World), (Instr.makeFunc fn first cap).run Try.prog w = .ok (.func fn first cap) w := fun _ _ _ _ => rfl
  have hS0 := fun W h0 => encSteps_any A c ks a0 a1 a2 a3 a4 a5 a6 a7 a8 a9 a10 a11 a12 a13 a14 w W hr hl h0
  obtain ⟨l, hL⟩ : ∃ l, [a0, a1, a2, a3, a4, a5, a6, a7, a8, a9, a10, a11, a12, a13, a14] = l := ⟨_, rfl⟩
  rw [hL] at hS0 ⊢
  clear hL
  obtain ⟨rv, hrv⟩ : ∃ rv, encE ks l = rv := ⟨_, rfl⟩
  rw [hrv] at hS0 ⊢
  have HV := Lib.hid hrv
  clear hrv
  by_cases h0 : rv.2 = 0
  rotate_left
  · have hS : ∀ W, EncP ks l (.slice A ks.length c) #[.int .i64 a0, .int .i64 a1, .int .i64 a2, .int .i64 a3, .int .i64 a4, .int .i64 a5, .int .i64 a6, .int .i64 a7, .int .i64 a8, .int .i64 a9, .int .i64 a10, .int .i64 a11, .int .i64 a12, .int .i64 a13, .int .i64 a14] w 0 W → Calls Try.prog 26 #[.slice (some ⟨w.heap.size + 1 + 1 + 1 + 1 + 1, 0, none⟩) 3 3] W fun e W' => e = .returned (.int .i64 rv.2) ∧ Below w.heap.size w W' ∧ rv.1 = [] := by
      intro W hW
      refine (hS0 W hW).mono ?_
      rintro e W' ⟨z, rfl, h1, h2⟩
      by_cases hz : z = 0
      · obtain ⟨v, u, k, Bk, ck, ⟨g1, g2, _⟩, _, _, _, g3, _⟩ := h1 hz
        have := encE_ok g1 g3 g2
        rw [HV.out] at this
        exact absurd (congrArg Prod.snd this) h0
      · obtain ⟨g1, g2⟩ := h2 hz
        rw [g2]
        exact ⟨rfl, g1, rfl⟩
    have hE := enc_start w (.slice A ks.length c) #[.int .i64 a0, .int .i64 a1, .int .i64 a2, .int .i64 a3, .int .i64 a4, .int .i64 a5, .int .i64 a6, .int .i64 a7, .int .i64 a8, .int .i64 a9, .int .i64 a10, .int .i64 a11, .int .i64 a12, .int .i64 a13, .int .i64 a14]
    have hzb : (rv.2 != 0) = true := by simpa using h0
    have HE := Lib.hid hE
    clear hS0 hE h0
    go_enter Try.func9, Try.ntmps9
    go_wp2_with (go_at_call 26; refine (hS _ HE.out).mono ?_; rintro e w6 ⟨rfl, hb6, hr1⟩; have HR := Lib.hid hr1; clear hr1)
    go_ret2
    exact ⟨_, rfl, by rw [HR.out]; exact World.ownsRow_nil _ _ _ _, hb6⟩
  · have hS : ∀ W, EncP ks l (.slice A ks.length c) #[.int .i64 a0, .int .i64 a1, .int .i64 a2, .int .i64 a3, .int .i64 a4, .int .i64 a5, .int .i64 a6, .int .i64 a7, .int .i64 a8, .int .i64 a9, .int .i64 a10, .int .i64 a11, .int .i64 a12, .int .i64 a13, .int .i64 a14] w 0 W → Calls Try.prog 26 #[.slice (some ⟨w.heap.size + 1 + 1 + 1 + 1 + 1, 0, none⟩) 3 3] W fun e W' => e = .returned (.int .i64 0) ∧ EncP ks l (.slice A ks.length c) #[.int .i64 a0, .int .i64 a1, .int .i64 a2, .int .i64 a3, .int .i64 a4, .int .i64 a5, .int .i64 a6, .int .i64 a7, .int .i64 a8, .int .i64 a9, .int .i64 a10, .int .i64 a11, .int .i64 a12, .int .i64 a13, .int .i64 a14] w 3 W' := by
      intro W hW
      refine (hS0 W hW).mono ?_
      rintro e W' ⟨z, rfl, h1, h2⟩
      by_cases hz : z = 0
      · exact ⟨by rw [hz], h1 hz⟩
      · obtain ⟨g1, g2⟩ := h2 hz
        rw [g2] at h0
        exact absurd h0 hz
    have hE := enc_start w (.slice A ks.length c) #[.int .i64 a0, .int .i64 a1, .int .i64 a2, .int .i64 a3, .int .i64 a4, .int .i64 a5, .int .i64 a6, .int .i64 a7, .int .i64 a8, .int .i64 a9, .int .i64 a10, .int .i64 a11, .int .i64 a12, .int .i64 a13, .int .i64 a14]
    have HE := Lib.hid hE
    have H0 := Lib.hid h0
    clear hS0 hE h0
    go_enter Try.func9, Try.ntmps9
    go_wp2_with (go_at_call 26; refine (hS _ HE.out).mono ?_; rintro e w6 ⟨rfl, v, u, k, Bk, ck, ⟨g1, g2, gq⟩, hM, hO, hB, gf, k1, k2, k3, k4, k5⟩; have HQ := Lib.hid (encE_ok g1 gf g2); have hql := putE_len g2; clear g1 g2 gf; generalize hq : (putE17 (encF ks l).1).1 = q at *; clear hq; obtain ⟨Au, cu, rfl, u1, u2⟩ := own_slice hO; have hqr := RdI.of_own hO; have hcK : w6.cell? ⟨w.heap.size + 1 + 1 + 1, 1, none⟩ = some (.slice Bk k.sec.length ck) := cell_of_row w6 _ 1 _ _ _ hM.2.2.2.1; have hcB := hM.2.2.2.2.1.cell; have HM := Lib.hid hM; have HO := Lib.hid hO; have HB := Lib.hid hB; have HKR := Lib.hid k3; clear hM hO hB k3)
    refine (bcTag_any Bk Au ck cu k.sec q w6 (HKR.out.below HB.out) hqr (by have := rightB_len k5; omega) (by omega) k4 gq).mono ?_
    rintro e w7 ⟨rfl, b7⟩
    have hTl := tagN_len k.sec (66 :: q)
    have hTb := tagN_byte k.sec (66 :: q)
    generalize tagN k.sec (66 :: q) = TG at *
    have HTL := Lib.hid hTl
    have hcB7 := keep_cell b7 hcB
    obtain ⟨w8, hw8, i8, b8, z8⟩ := newRow w7 (bv (List.replicate 32 0)).toArray (bv TG).toArray 42
    have HW8 := Lib.hid hw8
    have hcB8 := keep_cell b8 hcB7
    have hO8 := own_below (own_below HO.out b7) b8
    have hB8 := bT (bT HB.out b7) b8
    have hbx8 := boxed_below (boxed_below HM.out.2.2.2.2.1 b7) b8
    have HI8 := Lib.hid i8
    clear hw8 i8 hcB hcB7 hqr hTl b7 b8
    go_wp2_with (refine wpList_store_row rfl 42 _ _ rfl w7.heap.size (bv TG).toArray rfl rfl 42 _ (heap_alloc_new w7 _) ?_ ?_ (all_one (bv_one _)) ?_; (focus (rw [List.size_toArray, bv_len, HTL.out]; exact info32)); (focus (show 32 = (bv TG).toArray.size; rw [List.size_toArray, bv_len, HTL.out])); generalize hW8 : World.setRow _ _ _ = w88; obtain rfl : w8 = w88 := (by rw [← HW8.out, ← hW8]; kernel_rfl))
    have hcd : w8.drew.cell? ⟨w.heap.size + 1 + 1 + 1 + 1, 0, none⟩ = some (.slice Au q.length cu) := hcB8
    have hod : w8.drew.ownsRow (w.heap.size + 1 + 1 + 1 + 1 + 1) 5 1 (.slice Au q.length cu) q.length (q.map (.int .u8)) := hO8
    have hbd : Boxed w8.drew (w.heap.size + 1 + 1 + 1 + 1) 30 (.slice Au q.length cu) := hbx8
    have hrd : RdI w8.drew .u8 (some ⟨w7.heap.size, 0, none⟩) TG := rd_row (w := w8) HI8.out
    have hBd := bD hB8
    have hsd : w.heap.size + 1 + 1 + 1 + 1 + 1 ≤ w8.drew.heap.size := hbx8.lt
    have hqt : ∀ x ∈ q ++ TG, 0 ≤ x ∧ x < 256 := fun x hx => by
      rcases List.mem_append.1 hx with hx | hx
      · exact gq x hx
      · exact hTb x hx
    have hlen : (q ++ TG).length ≤ 1000000 := by rw [List.length_append, HTL.out]; omega
    obtain ⟨QT, hQT⟩ : ∃ QT, q ++ TG = QT := ⟨_, rfl⟩
    rw [hQT] at hqt hlen
    have HQT := Lib.hid hQT
    clear hcB8 hO8 hbx8 hB8 hTb gq hQT
    go_region_held3 (fun w9 => w9.cell? ⟨w.heap.size + 1 + 1 + 1 + 1, 0, none⟩ = some (.slice Au q.length cu)) (assumption) (first | ((rw [if_pos (by rfl)]; refine wpO_app (k := .u8) _ _ 30 rfl (w.heap.size + 1 + 1 + 1 + 1 + 1) 5 i0 (.int .u8 0) 1 Try.underlying30 hi hz0 hz1 hz2 rfl (.slice Au q.length cu) q rfl hod _ 32 TG (by rw [HTL.out]; rfl) hrd ?_ ?_ ?_ ?_; (focus (exact maxLen_ge (by rw [HTL.out]; omega))); (focus (rw [HTL.out]; omega)); (focus (exact hsd)); intro v3 w3 ho3 hg3 _; rw [HQT.out] at ho3; obtain ⟨A3, c3, rfl, x1, x2⟩ := own_slice ho3; have hS3 := (hbd.kept hg3 (hbd.not_row (by decide) hod)).cell; have hB3 := bG hBd hg3 (fun k hk => Nat.le_trans (by omega) (own_ge hod k hk)))) | (go_at_call 34; (with_reducible refine (fortyPut_any A3 c3 QT _ (RdI.of_own ho3) x1 (by unfold maxLen at x2; omega) hlen hqt).mono ?_); rintro e w4 ⟨r, rfl, hro, b4⟩; have hS4 := keep_cell b4 hS3))
    go_wp2
    go_ret2
    have hF := HQ.out
    rw [HV.out, HQT.out] at hF
    exact ⟨r, by rw [hF] <;> rfl, by rw [hF]; exact own_base hro hB3.size, bT hB3 b4⟩
end Go.Proofs.Ytachkhjbckapoaa

namespace Go.Proofs.Ytachkhjbckapoaa
open Go.RowKit
set_option linter.unusedVariables false
set_option maxRecDepth 100000
set_option linter.unusedSimpArgs false

theorem fgGo_len : ∀ (q : List Fd) (l : List Int) (la : Int), (fgGo q l la).1.length = l.length
  | [], l, la => rfl
  | f :: q, l, la => by
    rw [fgGo_cons]
    split
    · rfl
    split
    · rfl
    split
    · rfl
    · rw [fgGo_len]; simp
theorem fgEnd_len {l : List Int} (h : l.length = 15) (la : Int) : (fgEnd l la).1.length = 15 := by
  unfold fgEnd
  split
  · rfl
  split
  · split
    · rfl
    · exact h
  split
  · rfl
  split
  · rfl
  · simpa using h
theorem fgE_len (q : List Fd) : (fgE q).1.length = 15 := by
  unfold fgE
  split
  · split
    · rfl
    · exact fgEnd_len (by rw [fgGo_len]; rfl) _
  · rfl
theorem fgE_tlv {q : List Fd} (h : (fgE q).2 = 0) : tlvB 0 q = true := by
  unfold fgE at h
  split at h
  · assumption
  · simp at h
theorem body_short {b : List Int} {q : List Fd} (h : tlvGet b = (q, 0)) (hb : ∀ x ∈ b, 0 ≤ x ∧ x < 256) : b.length ≤ 65535 := by
  obtain ⟨h1, h2⟩ := tlvPut_get h hb
  obtain ⟨t3, t4⟩ := tlvB_facts _ 0 h2 (by omega)
  rw [← h1]
  have := putF_len q (fun f hf => (t4 f hf).2.2)
  omega
/-- The variables that the steps share, from block N on; base is the world behind open. -/
def DecM (L N : Nat) (bv' tv fv : Value) (rcs kcs gcs : Array Value) (base W : World) : Prop :=
  Boxed W N 30 bv' ∧ Boxed W (N + 1) 30 tv ∧ Boxed W (N + 1 + 1) 50 fv ∧ W.heap[N + 1 + 1 + 1]? = some (.cells rcs 28 (0, 0)) ∧ W.heap[N + 1 + 1 + 1 + 1]? = some (.cells kcs 49 (0, 0)) ∧ W.heap[N + 1 + 1 + 1 + 1 + 1]? = some (.cells gcs 54 (0, 0)) ∧ Below base.heap.size base W ∧ base.heap.size ≤ N
theorem DecM.below {L N : Nat} {bv' tv fv : Value} {rcs kcs gcs : Array Value} {base W W' : World} (h : DecM L N bv' tv fv rcs kcs gcs base W) (hb : Below W.heap.size W W') : DecM L N bv' tv fv rcs kcs gcs base W' := by
  obtain ⟨h1, h2, h3, h4, h5, h6, h7, h8⟩ := h
  have K : ∀ {b : Nat} {o : Obj}, W.heap[b]? = some o → W'.heap[b]? = some o := fun h => (hb.block _ (Array.getElem?_eq_some_iff.1 h).1).trans h
  exact ⟨K h1, K h2, K h3, K h4, K h5, K h6, bT h7 hb, h8⟩
theorem DecM.setR {L N : Nat} {bv' tv fv : Value} {rcs kcs gcs : Array Value} {base W : World} (h : DecM L N bv' tv fv rcs kcs gcs base W) (cs : Array Value) : DecM L N bv' tv fv cs kcs gcs base (W.setRow (N + 1 + 1 + 1) cs) := by
  obtain ⟨h1, h2, h3, h4, h5, h6, h7, h8⟩ := h
  have K : ∀ {b : Nat}, b ≠ N + 1 + 1 + 1 → (W.setRow (N + 1 + 1 + 1) cs).heap[b]? = W.heap[b]? := fun h => setRow_other W _ _ cs h
  exact ⟨(K (by omega)).trans h1, (K (by omega)).trans h2, (K (by omega)).trans h3, setRow_heap _ _ _ _ _ _ h4, (K (by omega)).trans h5, (K (by omega)).trans h6, setRow_below h7 (by omega), h8⟩
theorem DecM.setK {L N : Nat} {bv' tv fv : Value} {rcs kcs gcs : Array Value} {base W : World} (h : DecM L N bv' tv fv rcs kcs gcs base W) (cs : Array Value) : DecM L N bv' tv fv rcs cs gcs base (W.setRow (N + 1 + 1 + 1 + 1) cs) := by
  obtain ⟨h1, h2, h3, h4, h5, h6, h7, h8⟩ := h
  have K : ∀ {b : Nat}, b ≠ N + 1 + 1 + 1 + 1 → (W.setRow (N + 1 + 1 + 1 + 1) cs).heap[b]? = W.heap[b]? := fun h => setRow_other W _ _ cs h
  exact ⟨(K (by omega)).trans h1, (K (by omega)).trans h2, (K (by omega)).trans h3, (K (by omega)).trans h4, setRow_heap _ _ _ _ _ _ h5, (K (by omega)).trans h6, setRow_below h7 (by omega), h8⟩

set_option maxHeartbeats 4000000 in
theorem dec1_any (L N : Nat) (bv' tv : Value) (A : Option Addr) (c : Nat) (q : List Fd) (rcs kcs gcs : Array Value) (hr15 : rcs.size = 15) (base W : World) (hF : RdF base A q) (hl : q.length ≤ 9223372036854775807) (hM : DecM L N bv' tv (.slice A q.length c) rcs kcs gcs base W) :
    Calls Try.prog 42 #[.pointer (some ⟨N + 1 + 1, 0, none⟩), .pointer (some ⟨N + 1 + 1 + 1, 0, none⟩)] W fun e W' => e = .returned (.int .i64 (fgE q).2) ∧ DecM L N bv' tv (.slice A q.length c) (iv (fgE q).1).toArray kcs gcs base W' := by
  have hG := fieldsGet_any A c q W (hF.below hM.2.2.2.2.2.2.1 (Nat.le_refl _)) hl
  have hcF := hM.2.2.1.cell
  have hlen := fgE_len q
  generalize fgE q = r at *
  have HM := Lib.hid hM
  have HL := Lib.hid hlen
  clear hM hlen
  go_enter Try.func42, Try.ntmps42
  go_wp2_with (first | (go_at_call 43; (with_reducible refine hG.mono ?_); rintro e w1 ⟨rfl, hb1⟩; have hM1 := HM.out.below hb1; have hR1 := hM1.2.2.2.1; have HM1 := Lib.hid hM1; clear hM1) | (refine wpList_store_row rfl 28 _ _ rfl (N + 1 + 1 + 1) (iv r.1).toArray rfl rfl 28 _ hR1 ?_ ?_ ?_ ?_; (focus (rw [List.size_toArray, iv_len, HL.out]; exact infoR)); (focus (rw [hr15, List.size_toArray, iv_len, HL.out])); (focus (exact all_one (iv_one _)))))
  go_ret
  exact ⟨rfl, HM1.out.setR _⟩
set_option maxHeartbeats 4000000 in
theorem dec2_any (L N : Nat) (bv' tv fv : Value) (A : Option Addr) (c : Nat) (ks : List Ky) (l : List Int) (hl15 : l.length = 15) (kcs gcs : Array Value) (hk4 : kcs.size = 4) (base W : World) (hr : RdK base A ks) (hl : ks.length ≤ 9223372036854775807) (hL : Boxed base L 22 (.slice A ks.length c)) (hM : DecM L N bv' tv fv (iv l).toArray kcs gcs base W) :
    Calls Try.prog 44 #[.pointer (some ⟨L, 0, none⟩), .pointer (some ⟨N + 1 + 1 + 1, 0, none⟩), .pointer (some ⟨N + 1 + 1 + 1 + 1, 0, none⟩)] W fun e W' => ∃ (Bk : Option Addr) (ck : Nat), e = .returned (.int .i64 (findE ks (l.getD 11 0)).2) ∧
      (∀ k, (findE ks (l.getD 11 0)).1 = some k → k.sec.length ≤ ck ∧ ck ≤ 9223372036854775807 ∧ RdI base .u8 Bk k.sec ∧ (∀ x ∈ k.sec, 0 ≤ x ∧ x < 256) ∧ rightB k = true ∧ k.id = l.getD 11 0) ∧ DecM L N bv' tv fv (iv l).toArray (keyC (findE ks (l.getD 11 0)).1 Bk ck) gcs base W' := by
  have hF := fun W hW => ringFind_any A c ks (l.getD 11 0) base W hr hW hl
  have hc1 := (boxed_below hL hM.2.2.2.2.2.2.1).cell
  have hcR := row_iv hM.2.2.2.1 (j := 11) (by omega)
  have hb0 := hM.2.2.2.2.2.2.1
  have HM := Lib.hid hM
  clear hM
  generalize l.getD 11 0 = id at *
  go_enter Try.func44, Try.ntmps44
  go_wp2_with (first | (go_at_call 31; (with_reducible refine (hF _ hb0).mono ?_); rintro e w2 ⟨⟨Bk, ck, rfl, hkk⟩, hb2⟩; rw [keyV_eq]; have hM2 := HM.out.below hb2; have hKr := hM2.2.2.2.2.1; have HM2 := Lib.hid hM2; have HK := Lib.hid hkk; clear hM2 hkk hb2) | (refine wpList_store_row rfl 49 _ _ rfl (N + 1 + 1 + 1 + 1) (keyC (findE ks id).1 Bk ck) rfl rfl 49 _ hKr ?_ ?_ ?_ ?_; (focus (rw [keyC_size]; exact infoK)); (focus (rw [keyC_size, hk4])); (focus (exact keyC_one _ _ _))))
  go_ret
  exact ⟨Bk, ck, rfl, HK.out, HM2.out.setK _⟩
end Go.Proofs.Ytachkhjbckapoaa

namespace Go.Proofs.Ytachkhjbckapoaa
open Go.RowKit
set_option linter.unusedVariables false
set_option maxRecDepth 100000
set_option linter.unusedSimpArgs false

set_option maxHeartbeats 4000000 in
theorem dec3_any (L N : Nat) (A1 A2 Bk : Option Addr) (c1 c2 ck : Nat) (bd tg : List Int) (k : Ky) (fv : Value) (rcs gcs : Array Value) (base W : World) (hb : RdI base .u8 A1 bd) (ht : RdI base .u8 A2 tg) (hs : RdI base .u8 Bk k.sec) (hbb : ∀ x ∈ bd, 0 ≤ x ∧ x < 256) (htb : ∀ x ∈ tg, 0 ≤ x ∧ x < 256) (hsb : ∀ x ∈ k.sec, 0 ≤ x ∧ x < 256)
    (hbl : bd.length ≤ 65535) (htl : tg.length ≤ 32) (hkl : k.sec.length ≤ 64) (bb : Bool) (hbe : (tg == tagN k.sec (66 :: bd)) = bb) (hM : DecM L N (.slice A1 bd.length c1) (.slice A2 tg.length c2) fv rcs (keyC (some k) Bk ck) gcs base W) :
    Calls Try.prog 45 #[.pointer (some ⟨N + 1 + 1 + 1 + 1, 0, none⟩), .pointer (some ⟨N, 0, none⟩), .pointer (some ⟨N + 1, 0, none⟩)] W fun e W' => e = .returned (.int .i64 (if bb then 0 else 11)) ∧ DecM L N (.slice A1 bd.length c1) (.slice A2 tg.length c2) fv rcs (keyC (some k) Bk ck) gcs base W' := by
  have hbW := hM.2.2.2.2.2.2.1
  have hcK : W.cell? ⟨N + 1 + 1 + 1 + 1, 1, none⟩ = some (.slice Bk k.sec.length ck) := cell_of_row W _ 1 _ _ _ hM.2.2.2.2.1
  have hcB := hM.1.cell
  have hcT := hM.2.1.cell
  have hT := bcTag_any Bk A1 ck c1 k.sec bd W (hs.below hbW) (hb.below hbW) (by omega) (by omega) hsb hbb
  have hTl := tagN_len k.sec (66 :: bd)
  have hTb := tagN_byte k.sec (66 :: bd)
  generalize tagN k.sec (66 :: bd) = TG at *
  have HTL := Lib.hid hTl
  have HM := Lib.hid hM
  have HT := Lib.hid (ht.below hbW)
  clear hM hTl hb hs ht
  go_enter Try.func45, Try.ntmps45
  go_wp2_with fail
  refine hT.mono ?_
  rintro e w7 ⟨rfl, b7⟩
  obtain ⟨w8, hw8, i8, b8, z8⟩ := newRow w7 (bv (List.replicate 32 0)).toArray (bv TG).toArray 42
  have HW8 := Lib.hid hw8
  have hc8 := keep_cell b8 (keep_cell b7 hcT)
  have HM8 := Lib.hid ((HM.out.below b7).below b8)
  have hrd : RdI w8.drew .u8 (some ⟨w7.heap.size, 0, none⟩) TG := rd_row (w := w8) i8
  have htd : RdI w8.drew .u8 A2 tg := (HT.out.below b7).below (bD b8)
  have hSm := sealSame_any A2 (some ⟨w7.heap.size, 0, none⟩) c2 32 tg TG w8.drew htd hrd (by omega) (by rw [HTL.out]; omega) htb hTb
  rw [HTL.out, hbe] at hSm
  have hcd : w8.drew.cell? ⟨N + 1, 0, none⟩ = some (.slice A2 tg.length c2) := hc8
  clear hw8 i8 b7 b8 hcB hcT hcK hT hrd htd hTb hc8
  go_wp2_with (refine wpList_store_row rfl 42 _ _ rfl w7.heap.size (bv TG).toArray rfl rfl 42 _ (heap_alloc_new w7 _) ?_ ?_ (all_one (bv_one _)) ?_; (focus (rw [List.size_toArray, bv_len, HTL.out]; exact info32)); (focus (show 32 = (bv TG).toArray.size; rw [List.size_toArray, bv_len, HTL.out])); generalize hW8 : World.setRow _ _ _ = w88; obtain rfl : w8 = w88 := (by rw [← HW8.out, ← hW8]; kernel_rfl))
  go_region_held3 (fun w9 => w9.cell? ⟨N + 1, 0, none⟩ = some (.slice A2 tg.length c2)) (assumption) ((go_at_call 46; (with_reducible refine hSm.mono ?_); rintro e w9 ⟨rfl, b9⟩; have hc9 := keep_cell b9 hcd))
  cases bb
  · go_wp2
    go_ret
    exact ⟨rfl, (HM8.out.below (Below.refl _ _).drew).below b9⟩
  · go_wp2
    go_ret
    exact ⟨rfl, (HM8.out.below (Below.refl _ _).drew).below b9⟩
end Go.Proofs.Ytachkhjbckapoaa

namespace Go.Proofs.Ytachkhjbckapoaa
open Go.RowKit
set_option linter.unusedVariables false
set_option maxRecDepth 100000
set_option linter.unusedSimpArgs false

def decG (L N : Nat) : Array Value := #[.func (.func 42) #[] #[.pointer (some ⟨N + 1 + 1, 0, none⟩), .pointer (some ⟨N + 1 + 1 + 1, 0, none⟩)], .func (.func 44) #[] #[.pointer (some ⟨L, 0, none⟩), .pointer (some ⟨N + 1 + 1 + 1, 0, none⟩), .pointer (some ⟨N + 1 + 1 + 1 + 1, 0, none⟩)], .func (.func 45) #[] #[.pointer (some ⟨N + 1 + 1 + 1 + 1, 0, none⟩), .pointer (some ⟨N, 0, none⟩), .pointer (some ⟨N + 1, 0, none⟩)]]
def DecP (ks : List Ky) (bd tg : List Int) (q : List Fd) (L N : Nat) (vb vt vf : Value) (base : World) : Nat → World → Prop
  | 0, W => DecM L N vb vt vf (iv zL).toArray kz (decG L N) base W
  | 1, W => (fgE q).2 = 0 ∧ DecM L N vb vt vf (iv (fgE q).1).toArray kz (decG L N) base W
  | 2, W => ∃ (k : Ky) (Bk : Option Addr) (ck : Nat), ((fgE q).2 = 0 ∧ findE ks ((fgE q).1.getD 11 0) = (some k, 0) ∧ RdI base .u8 Bk k.sec ∧ (∀ x ∈ k.sec, 0 ≤ x ∧ x < 256) ∧ rightB k = true) ∧ DecM L N vb vt vf (iv (fgE q).1).toArray (keyC (some k) Bk ck) (decG L N) base W
  | 3, W => ∃ (k : Ky) (Bk : Option Addr) (ck : Nat), ((fgE q).2 = 0 ∧ findE ks ((fgE q).1.getD 11 0) = (some k, 0) ∧ (tg == tagN k.sec (66 :: bd)) = true) ∧ DecM L N vb vt vf (iv (fgE q).1).toArray (keyC (some k) Bk ck) (decG L N) base W
  | _, _ => False
theorem decM_func {L N k : Nat} {bv' tv fv : Value} {rcs kcs gcs : Array Value} {base W : World} (h : DecM L N bv' tv fv rcs kcs gcs base W) : W.cell? ⟨N + 1 + 1 + 1 + 1 + 1, k, none⟩ = gcs[k]? := cell_of_row _ _ k _ _ _ h.2.2.2.2.2.1
theorem decP_func {ks : List Ky} {bd tg : List Int} {q : List Fd} {L N : Nat} {vb vt vf : Value} {base : World} (n : Nat) (W : World) (h : DecP ks bd tg q L N vb vt vf base n W) (k : Nat) : W.cell? ⟨N + 1 + 1 + 1 + 1 + 1, k, none⟩ = (decG L N)[k]? := by
  match n, h with
  | 0, h => exact decM_func (L := L) h
  | 1, ⟨_, h⟩ => exact decM_func (L := L) h
  | 2, ⟨_, _, _, _, h⟩ => exact decM_func (L := L) h
  | 3, ⟨_, _, _, _, h⟩ => exact decM_func (L := L) h
theorem decSteps_any (A : Option Addr) (c : Nat) (ks : List Ky) (bd tg : List Int) (q : List Fd) (A1 A2 A3 : Option Addr) (c1 c2 c3 L N : Nat) (base W : World) (hr : RdK base A ks) (hl : ks.length ≤ 9223372036854775807) (hL : Boxed base L 22 (.slice A ks.length c))
    (hb : RdI base .u8 A1 bd) (ht : RdI base .u8 A2 tg) (hF : RdF base A3 q) (hbb : ∀ x ∈ bd, 0 ≤ x ∧ x < 256) (htb : ∀ x ∈ tg, 0 ≤ x ∧ x < 256) (hql : q.length ≤ 9223372036854775807) (hbl : bd.length ≤ 65535) (htl : tg.length ≤ 32)
    (h0 : DecP ks bd tg q L N (.slice A1 bd.length c1) (.slice A2 tg.length c2) (.slice A3 q.length c3) base 0 W) :
    Calls Try.prog 26 #[.slice (some ⟨N + 1 + 1 + 1 + 1 + 1, 0, none⟩) 3 3] W
      (StepRet (DecP ks bd tg q L N (.slice A1 bd.length c1) (.slice A2 tg.length c2) (.slice A3 q.length c3) base 3) (fun z W' => Below base.heap.size base W' ∧ decF ks bd tg q = (zL, z))) := by
  refine steps_any _ 42 44 45 _ _ _ _ _ W h0 (fun k W' h => ⟨decP_func k W' h 0, decP_func k W' h 1, decP_func k W' h 2⟩) (fun _ => rfl) (fun _ => rfl) (fun _ => rfl) ?_ ?_ ?_
  · intro W' hM
    refine (dec1_any L N _ _ A3 c3 q _ _ _ rfl base W' hF hql hM).mono ?_
    rintro e W2 ⟨rfl, hM2⟩
    refine ⟨_, rfl, fun hz => ⟨hz, hM2⟩, fun hz => ⟨hM2.2.2.2.2.2.2.1, ?_⟩⟩
    unfold decF
    rw [if_pos hz]
  · rintro W' ⟨hz, hM⟩
    refine (dec2_any L N _ _ _ A c ks (fgE q).1 (fgE_len q) _ _ rfl base W' hr hl hL hM).mono ?_
    rintro e W2 ⟨Bk, ck, rfl, hk, hM2⟩
    refine ⟨_, rfl, fun hz2 => ?_, fun hz2 => ⟨hM2.2.2.2.2.2.2.1, ?_⟩⟩
    · cases hf : (findE ks ((fgE q).1.getD 11 0)).1 with
      | none => exact absurd hz2 (findE_none hf)
      | some k =>
        rw [hf] at hM2
        obtain ⟨k1, k2, k3, k4, k5, k6⟩ := hk k hf
        exact ⟨k, Bk, ck, ⟨hz, findE_some hf, k3, k4, k5⟩, hM2⟩
    · unfold decF
      rw [if_neg (fun h => h hz)]
      cases hf : (findE ks ((fgE q).1.getD 11 0)).1 with
      | none => rw [show findE ks ((fgE q).1.getD 11 0) = (none, (findE ks ((fgE q).1.getD 11 0)).2) by rw [← hf]]
      | some k =>
        have := findE_some hf
        rw [this] at hz2
        exact absurd rfl hz2
  · rintro W' ⟨k, Bk, ck, ⟨hz, hf, k3, k4, k5⟩, hM⟩
    obtain ⟨bb, hbe⟩ : ∃ bb, (tg == tagN k.sec (66 :: bd)) = bb := ⟨_, rfl⟩
    refine (dec3_any L N A1 A2 Bk c1 c2 ck bd tg k _ _ _ base W' hb ht k3 hbb htb k4 hbl htl (rightB_len k5).2 bb hbe hM).mono ?_
    rintro e W2 ⟨rfl, hM2⟩
    refine ⟨_, rfl, fun hz2 => ⟨k, Bk, ck, ⟨hz, hf, ?_⟩, hM2⟩, fun hz2 => ⟨hM2.2.2.2.2.2.2.1, ?_⟩⟩
    · cases bb
      · simp at hz2
      · exact hbe
    · unfold decF
      rw [if_neg (fun h => h hz), hf]
      cases bb
      · simp only
        rw [if_neg (by rw [hbe]; simp)]
        rfl
      · simp at hz2
theorem decF_ok {ks : List Ky} {bd tg : List Int} {q : List Fd} {k : Ky} (h1 : (fgE q).2 = 0) (h2 : findE ks ((fgE q).1.getD 11 0) = (some k, 0)) (h3 : (tg == tagN k.sec (66 :: bd)) = true) : decF ks bd tg q = ((fgE q).1, 0) := by
  unfold decF
  rw [if_neg (fun h => h h1), h2]
  simp only
  rw [if_pos h3]
end Go.Proofs.Ytachkhjbckapoaa

namespace Go.Proofs.Ytachkhjbckapoaa
open Go.RowKit
set_option linter.unusedVariables false
set_option maxRecDepth 100000
set_option linter.unusedSimpArgs false

/-- A ring with a key more, at its place. -/
def addL (l : List Ky) (p : Nat) (k : Ky) : List Ky := l.take p ++ k :: l.drop p
theorem ringGo_iff : ∀ (l : List Ky) (last : Int), ringGo last l = true ↔ (∀ k ∈ l, rightB k = true ∧ last < k.id) ∧ l.Pairwise (fun a b => a.id < b.id)
  | [], last => by simp [ringGo]
  | x :: t, last => by
    rw [ringGo_cons, Bool.and_eq_true, Bool.and_eq_true, decide_eq_true_eq, ringGo_iff t x.id, List.pairwise_cons]
    constructor
    · rintro ⟨⟨h1, h2⟩, h3, h4⟩
      refine ⟨fun k hk => ?_, fun k hk => (h3 k hk).2, h4⟩
      rcases List.mem_cons.1 hk with rfl | hk
      · exact ⟨h1, h2⟩
      · exact ⟨(h3 k hk).1, by have := (h3 k hk).2; omega⟩
    · rintro ⟨h1, h2, h3⟩
      exact ⟨h1 x (by simp), fun k hk => ⟨(h1 k (by simp [hk])).1, h2 k hk⟩, h3⟩
theorem ring_add {l : List Ky} {k : Ky} {p : Nat} (hr : ringB l = true) (hk : rightB k = true) (hp : p ≤ l.length) (hlo : ∀ (j : Nat) (hj : j < l.length), j < p → l[j].id < k.id) (hhi : ∀ (j : Nat) (hj : j < l.length), p ≤ j → k.id ≤ l[j].id) (hno : (l.any fun x => x.id == k.id) = false) : ringB (addL l p k) = true := by
  unfold ringB at hr ⊢
  obtain ⟨h1, h2⟩ := (ringGo_iff l (-1)).1 hr
  have hid := rightB_id hk
  have hne : ∀ x ∈ l, x.id ≠ k.id := fun x hx => by
    have := List.any_eq_false.1 hno x hx
    simpa using this
  rw [ringGo_iff]
  have ht : ∀ x ∈ l.take p, x ∈ l := fun x hx => List.mem_of_mem_take hx
  have hd : ∀ x ∈ l.drop p, x ∈ l := fun x hx => List.mem_of_mem_drop hx
  have hlt : ∀ x ∈ l.take p, x.id < k.id := by
    intro x hx
    obtain ⟨j, hj, rfl⟩ := List.getElem_of_mem hx
    rw [List.length_take] at hj
    rw [List.getElem_take]
    exact hlo j (by omega) (by omega)
  have hgt : ∀ x ∈ l.drop p, k.id < x.id := by
    intro x hx
    obtain ⟨j, hj, rfl⟩ := List.getElem_of_mem hx
    have h3 := hne _ (hd _ (List.getElem_mem hj))
    rw [List.length_drop] at hj
    rw [List.getElem_drop] at h3 ⊢
    have := hhi (p + j) (by omega) (by omega)
    omega
  refine ⟨fun x hx => ?_, ?_⟩
  · rcases List.mem_append.1 hx with hx | hx
    · exact h1 x (ht x hx)
    rcases List.mem_cons.1 hx with rfl | hx
    · exact ⟨hk, by omega⟩
    · exact h1 x (hd x hx)
  · unfold addL
    rw [List.pairwise_append]
    refine ⟨h2.sublist (List.take_sublist _ _), ?_, fun a ha b hb => ?_⟩
    · rw [List.pairwise_cons]
      exact ⟨hgt, h2.sublist (List.drop_sublist _ _)⟩
    · have ha' := hlt a ha
      rcases List.mem_cons.1 hb with rfl | hb
      · exact ha'
      · have := hgt b hb; omega
theorem find_add {l : List Ky} {k : Ky} {p : Nat} (id : Int) (hno : (l.any fun x => x.id == k.id) = false) : (addL l p k).find? (fun x => x.id == id) = if id = k.id then some k else l.find? (fun x => x.id == id) := by
  have hne : ∀ x ∈ l, x.id ≠ k.id := fun x hx => by
    have := List.any_eq_false.1 hno x hx
    simpa using this
  unfold addL
  rw [List.find?_append, List.find?_cons]
  have e : l.find? (fun x => x.id == id) = ((l.take p).find? (fun x => x.id == id)).or ((l.drop p).find? (fun x => x.id == id)) := by
    rw [← List.find?_append, List.take_append_drop]
  by_cases h : id = k.id
  · rw [if_pos h]
    have : (l.take p).find? (fun x => x.id == id) = none := List.find?_eq_none.2 (fun x hx => by have := hne x (List.mem_of_mem_take hx); simp; omega)
    rw [this, h]
    simp
  · rw [if_neg h, e]
    have : (k.id == id) = false := by simp; omega
    rw [this]
/-- What a barcode says by a ring with a key more. -/
theorem keys_law {l : List Ky} {k : Ky} {p : Nat} (s : List Int) (hr : ringB l = true) (hr2 : ringB (addL l p k) = true) (hno : (l.any fun x => x.id == k.id) = false) :
    ((decE l s).2 = 10 → ((decE (addL l p k) s).2 = 10 ∨ (decE (addL l p k) s).2 = 11 ∨ ((decE (addL l p k) s).2 = 0 ∧ (decE (addL l p k) s).1.getD 11 0 = k.id))) ∧ ((decE l s).2 ≠ 10 → decE (addL l p k) s = decE l s) := by
  have e1 : ∀ ks : List Ky, ringB ks = true → decE ks s = (if (openE s).2 ≠ 0 then (zL, (openE s).2) else decF ks (openE s).1.1 (openE s).1.2.1 (openE s).1.2.2) := fun ks h => by unfold decE; rw [h, if_neg (by simp)]
  rw [e1 _ hr, e1 _ hr2]
  by_cases h1 : (openE s).2 ≠ 0
  · rw [if_pos h1, if_pos h1]
    exact ⟨fun h => .inl h, fun _ => rfl⟩
  rw [if_neg h1, if_neg h1]
  generalize (openE s).1.1 = bd
  generalize (openE s).1.2.1 = tg
  generalize (openE s).1.2.2 = q
  by_cases h2 : (fgE q).2 ≠ 0
  · have e2 : ∀ ks : List Ky, decF ks bd tg q = (zL, (fgE q).2) := fun ks => by unfold decF; rw [if_pos h2]
    rw [e2, e2]
    exact ⟨fun h => .inl h, fun _ => rfl⟩
  have e2 : ∀ ks : List Ky, decF ks bd tg q = (match findE ks ((fgE q).1.getD 11 0) with
      | (none, e) => (zL, e)
      | (some k, _) => if (tg == tagN k.sec (66 :: bd)) = true then ((fgE q).1, 0) else (zL, 11)) := fun ks => by
    unfold decF
    rw [if_neg h2]
    rfl
  rw [e2, e2]
  generalize hid : (fgE q).1.getD 11 0 = id
  have e3 : ∀ ks : List Ky, ringB ks = true → findE ks id = ((if 0 ≤ id ∧ id < 100 then match ks.find? (fun k => k.id == id) with
      | some k => (some k, 0)
      | none => (none, 10)
    else (none, 10)) : Option Ky × Int) := fun ks h => by
    unfold findE
    rw [if_neg (by rw [h]; simp)]
    rfl
  by_cases h4 : id = k.id
  · have hn : l.find? (fun x => x.id == id) = none := any_find (by rw [h4]; exact hno)
    have f1 : findE l id = (none, 10) := by rw [e3 _ hr, hn]; split <;> rfl
    rw [f1]
    simp only
    refine ⟨fun _ => ?_, fun h => absurd rfl h⟩
    rw [e3 _ hr2, find_add id hno, if_pos h4]
    by_cases h3 : 0 ≤ id ∧ id < 100
    · rw [if_pos h3]
      simp only
      by_cases h5 : (tg == tagN k.sec (66 :: bd)) = true
      · rw [if_pos h5]
        right; right
        exact ⟨rfl, by show (fgE q).1.getD 11 0 = k.id; rw [hid, h4]⟩
      · rw [if_neg h5]
        right; left; rfl
    · rw [if_neg h3]
      left; rfl
  · have f1 : findE (addL l p k) id = findE l id := by rw [e3 _ hr, e3 _ hr2, find_add id hno, if_neg h4]
    rw [f1]
    exact ⟨fun h => .inl h, fun _ => rfl⟩
end Go.Proofs.Ytachkhjbckapoaa

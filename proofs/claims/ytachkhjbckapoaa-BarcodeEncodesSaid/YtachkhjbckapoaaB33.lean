/- Layer 19: barcode.Decode, walked. No condition. -/
import Derived.Test.YtachkhjbckapoaaB31
namespace Go.Proofs.Ytachkhjbckapoaa
open Go.RowKit
set_option linter.unusedVariables false
set_option maxRecDepth 100000
set_option linter.unusedSimpArgs false

def DCRet (r : List Int × Int) (w : World) (e : Ending) (w' : World) : Prop := e = .returned (.tuple #[.agg (iv r.1).toArray, .int .i64 r.2]) ∧ Below w.heap.size w w'
theorem dcPost {r : List Int × Int} {w w' : World} {a : Act} {old cs : Array Value} {l : List Int} (hcs : cs = (iv l).toArray) (hd : a.defers = []) (hp : a.tmps.getD 4 undef = .pointer (some ⟨w.heap.size + 1, 0, none⟩)) (hv : a.tmps.getD 5 undef = .int .i64 r.2) (hr : r.1 = l) (hl : l.length = 15)
    (hF : w'.heap[w.heap.size + 1]? = some (.cells old 28 (0, 0))) (hb : Below w.heap.size w w') : bodyPost Try.prog Try.f13 (DCRet r w) .ret a (w'.setRow (w.heap.size + 1) cs) := by
  subst hcs hr
  exact bodyPost_ret (results_keyrow rfl Try.underlying28 rfl hp hv (setRow_heap _ _ _ _ _ _ hF) (by rw [List.size_toArray, iv_len, hl]; exact infoRd)) hd ⟨rfl, setRow_below hb (Nat.le_succ _)⟩
theorem dec_start (L : Nat) (w : World) (vb vt vf : Value) : DecM L w.heap.size vb vt vf #[.int .i64 0, .int .i64 0, .int .i64 0, .int .i64 0, .int .i64 0, .int .i64 0, .int .i64 0, .int .i64 0, .int .i64 0, .int .i64 0, .int .i64 0, .int .i64 0, .int .i64 0, .int .i64 0, .int .i64 0] kz (decG L w.heap.size) w ((((((w.alloc (.cells #[vb] 30)).alloc (.cells #[vt] 30)).alloc (.cells #[vf] 50)).alloc (.cells #[.int .i64 0, .int .i64 0, .int .i64 0, .int .i64 0, .int .i64 0, .int .i64 0, .int .i64 0, .int .i64 0, .int .i64 0, .int .i64 0, .int .i64 0, .int .i64 0, .int .i64 0, .int .i64 0, .int .i64 0] 28)).alloc (.cells kz 49)).alloc (.cells (decG L w.heap.size) 54)) := by
  have N : ∀ {W W' : World} {b : Nat} {o : Obj}, Below W.heap.size W W' → W.heap[b]? = some o → W'.heap[b]? = some o := fun hb h => (hb.block _ (Array.getElem?_eq_some_iff.1 h).1).trans h
  obtain ⟨w1, e1, h1, b1, z1⟩ := new_block w (.cells #[vb] 30)
  rw [e1]
  obtain ⟨w2, e2, h2, b2, z2⟩ := new_block w1 (.cells #[vt] 30)
  rw [e2]
  obtain ⟨w3, e3, h3, b3, z3⟩ := new_block w2 (.cells #[vf] 50)
  rw [e3]
  obtain ⟨w4, e4, h4, b4, z4⟩ := new_block w3 (.cells #[.int .i64 0, .int .i64 0, .int .i64 0, .int .i64 0, .int .i64 0, .int .i64 0, .int .i64 0, .int .i64 0, .int .i64 0, .int .i64 0, .int .i64 0, .int .i64 0, .int .i64 0, .int .i64 0, .int .i64 0] 28)
  rw [e4]
  obtain ⟨w5, e5, h5, b5, z5⟩ := new_block w4 (.cells kz 49)
  rw [e5]
  obtain ⟨w6, e6, h6, b6, z6⟩ := new_block w5 (.cells (decG L w.heap.size) 54)
  rw [e6]
  rw [z1] at h2 z2
  rw [z2] at h3 z3
  rw [z3] at h4 z4
  rw [z4] at h5 z5
  rw [z5] at h6
  exact ⟨N b6 (N b5 (N b4 (N b3 (N b2 h1)))), N b6 (N b5 (N b4 (N b3 h2))), N b6 (N b5 (N b4 h3)), N b6 (N b5 h4), N b6 h5, h6, bT (bT (bT (bT (bT b1 b2) b3) b4) b5) b6, Nat.le_refl _⟩

set_option maxHeartbeats 8000000 in
set_option maxRecDepth 100000 in
theorem bcDecode_any (A : Option Addr) (c : Nat) (ks : List Ky) (As : Option Addr) (cs : Nat) (s : List Int) (w : World) (hr : RdK w A ks) (hl : ks.length ≤ 9223372036854775807) (hrs : RdI w .u8 As s) (hsc : s.length ≤ cs) (hs9 : cs ≤ 9223372036854775807) (hsb : ∀ x ∈ s, 0 ≤ x ∧ x < 256) (hsl : s.length ≤ 140737488351232) :
    Calls Try.prog 13 #[.slice A ks.length c, .slice As s.length cs] w (DCRet (decE ks s) w) := by
  have hmf : ∀ (fn : Fn) (first cap : Array Value) (w : World), (Instr.makeFunc fn first cap).run Try.prog w = .ok (.func fn first cap) w := fun _ _ _ _ => rfl
  have hI := fun W hW => ringIs_any A c ks W hW hl
  have hO := fun W hW => bcOpen_any As cs s W hW hsc hs9 hsb hsl
  obtain ⟨rv, hrv⟩ : ∃ rv, decE ks s = rv := ⟨_, rfl⟩
  have hR := hrv
  unfold decE at hR
  rw [hrv]
  clear hrv
  have hB2 : Below w.heap.size w ((w.alloc (.cells #[.slice A ks.length c] 22)).alloc (.cells #[.int .i64 0, .int .i64 0, .int .i64 0, .int .i64 0, .int .i64 0, .int .i64 0, .int .i64 0, .int .i64 0, .int .i64 0, .int .i64 0, .int .i64 0, .int .i64 0, .int .i64 0, .int .i64 0, .int .i64 0] 28)) := bA (bel1 w _) _
  have hF0 : ((w.alloc (.cells #[.slice A ks.length c] 22)).alloc (.cells #[.int .i64 0, .int .i64 0, .int .i64 0, .int .i64 0, .int .i64 0, .int .i64 0, .int .i64 0, .int .i64 0, .int .i64 0, .int .i64 0, .int .i64 0, .int .i64 0, .int .i64 0, .int .i64 0, .int .i64 0] 28)).heap[w.heap.size + 1]? = some (.cells #[.int .i64 0, .int .i64 0, .int .i64 0, .int .i64 0, .int .i64 0, .int .i64 0, .int .i64 0, .int .i64 0, .int .i64 0, .int .i64 0, .int .i64 0, .int .i64 0, .int .i64 0, .int .i64 0, .int .i64 0] 28 (0, 0)) := heap_alloc2_new w _ _
  have hL0 : Boxed ((w.alloc (.cells #[.slice A ks.length c] 22)).alloc (.cells #[.int .i64 0, .int .i64 0, .int .i64 0, .int .i64 0, .int .i64 0, .int .i64 0, .int .i64 0, .int .i64 0, .int .i64 0, .int .i64 0, .int .i64 0, .int .i64 0, .int .i64 0, .int .i64 0, .int .i64 0] 28)) w.heap.size 22 (.slice A ks.length c) := heap_alloc2_old w _ _
  have hr2 := hr.below hB2 (Nat.le_refl _)
  have hrs2 := hrs.below hB2
  have HB2 := Lib.hid hB2
  have HF0 := Lib.hid hF0
  have HL0 := Lib.hid hL0
  have HR2 := Lib.hid hr2
  have HRS2 := Lib.hid hrs2
  clear hB2 hF0 hL0 hr hrs hr2 hrs2
  cases hz : ringB ks with
  | false =>
    rw [hz, if_pos rfl] at hR
    have HV := Lib.hid hR.symm
    clear hR hO
    rw [hz] at hI
    go_enter Try.func13, Try.ntmps13
    go_wp2_with (first | (go_at_call 28; (with_reducible refine (hI _ HR2.out).mono ?_); rintro e w1 ⟨rfl, hb1⟩; have hF := (hb1.block (w.heap.size + 1) (by simp)).trans HF0.out; have hbx := bT HB2.out hb1) | (refine wpList_store_row rfl 28 _ _ rfl (w.heap.size + 1) #[.int .i64 0, .int .i64 0, .int .i64 0, .int .i64 0, .int .i64 0, .int .i64 0, .int .i64 0, .int .i64 0, .int .i64 0, .int .i64 0, .int .i64 0, .int .i64 0, .int .i64 0, .int .i64 0, .int .i64 0] rfl rfl 28 _ hF ?_ ?_ ?_ ?_; (focus (exact infoRd)); (focus rfl); (focus (simp [Value.oneCell']))))
    exact dcPost z15_eq rfl rfl (by rw [HV.out] <;> rfl) (by rw [HV.out] <;> rfl) rfl hF hbx
  | true =>
    rw [hz, if_neg (by simp)] at hR
    rw [hz] at hI
    clear hz
    generalize hre : openE s = r at *
    obtain ⟨⟨bd, tg, q⟩, e1⟩ := r
    simp only at hR
    by_cases h0 : e1 = 0
    rotate_left
    · rw [if_pos h0] at hR
      have HV := Lib.hid hR.symm
      have hzb : (e1 != 0) = true := by simpa using h0
      clear hR h0 hre
      go_enter Try.func13, Try.ntmps13
      go_wp2_with (first | (go_at_call 28; (with_reducible refine (hI _ HR2.out).mono ?_); rintro e w1 ⟨rfl, hb1⟩; have HB1 := Lib.hid hb1; clear hb1) | (go_at_call 41; (with_reducible refine (hO _ (HRS2.out.below HB1.out)).mono ?_); rintro e w2 ⟨A1, A2, A3, c1, c2, c3, rfl, k1, k2, k3, k4, k5, k6, k7, hb2⟩; have HB3 := Lib.hid (bT (bT HB2.out HB1.out) hb2); have hF2 := (hb2.block (w.heap.size + 1) (Nat.lt_of_lt_of_le (by simp) HB1.out.size)).trans ((HB1.out.block (w.heap.size + 1) (by simp)).trans HF0.out); have HF3 : Hid (∀ o1 o2 o3, (((w2.alloc o1).alloc o2).alloc o3).heap[w.heap.size + 1]? = some (.cells #[.int .i64 0, .int .i64 0, .int .i64 0, .int .i64 0, .int .i64 0, .int .i64 0, .int .i64 0, .int .i64 0, .int .i64 0, .int .i64 0, .int .i64 0, .int .i64 0, .int .i64 0, .int .i64 0, .int .i64 0] 28 (0, 0))) := Lib.hid (fun o1 o2 o3 => ((bA (bA (bel1 w2 o1) o2) o3).block _ (Array.getElem?_eq_some_iff.1 hF2).1).trans hF2); have HF2 := Lib.hid hF2; have HL2 := Lib.hid (boxed_below (boxed_below HL0.out HB1.out) hb2); have HK2 := Lib.hid ((HR2.out.below HB1.out (Nat.le_refl _)).below hb2 (Nat.le_refl _)); have H1 := Lib.hid k1; have H2 := Lib.hid k2; have H3 := Lib.hid k3; have H4 := Lib.hid k4; have H5 := Lib.hid k5; clear hb2 hF2 k1 k2 k3 k4 k5) | (refine wpList_store_row rfl 28 _ _ rfl (w.heap.size + 1) #[.int .i64 0, .int .i64 0, .int .i64 0, .int .i64 0, .int .i64 0, .int .i64 0, .int .i64 0, .int .i64 0, .int .i64 0, .int .i64 0, .int .i64 0, .int .i64 0, .int .i64 0, .int .i64 0, .int .i64 0] rfl rfl 28 _ (HF3.out _ _ _) ?_ ?_ ?_ ?_; (focus (exact infoRd)); (focus rfl); (focus (simp [Value.oneCell']))))
      exact dcPost z15_eq rfl rfl (by rw [HV.out] <;> rfl) (by rw [HV.out] <;> rfl) rfl (HF3.out _ _ _) (bA (bA (bA HB3.out _) _) _)
    · subst h0
      rw [if_neg (by simp)] at hR
      have htl : tlvGet bd = (q, 0) := by
        have h := hre
        unfold openE at h
        split at h
        · rename_i g
          simp only [Prod.mk.injEq] at h
          exact absurd h.2 g
        split at h
        · simp at h
        · simp only [Prod.mk.injEq] at h
          obtain ⟨⟨h1, _, h2⟩, h3⟩ := h
          rw [← h1, ← h2]
          exact Prod.ext rfl h3
      have HTL := Lib.hid htl
      have hS0 : ∀ (A1 A2 A3 : Option Addr) (c1 c2 c3 : Nat) (base W : World), RdK base A ks → Boxed base w.heap.size 22 (.slice A ks.length c) → RdI base .u8 A1 bd → RdI base .u8 A2 tg → RdF base A3 q → (∀ x ∈ bd, 0 ≤ x ∧ x < 256) → (∀ x ∈ tg, 0 ≤ x ∧ x < 256) → q.length ≤ 9223372036854775807 → tg.length ≤ 32 →
          DecP ks bd tg q w.heap.size base.heap.size (.slice A1 bd.length c1) (.slice A2 tg.length c2) (.slice A3 q.length c3) base 0 W →
          Calls Try.prog 26 #[.slice (some ⟨base.heap.size + 1 + 1 + 1 + 1 + 1, 0, none⟩) 3 3] W (StepRet (DecP ks bd tg q w.heap.size base.heap.size (.slice A1 bd.length c1) (.slice A2 tg.length c2) (.slice A3 q.length c3) base 3) (fun z W' => Below base.heap.size base W' ∧ decF ks bd tg q = (zL, z))) :=
        fun A1 A2 A3 c1 c2 c3 base W b1 b2 b3 b4 b5 b6 b7 b8 b9 hP => decSteps_any A c ks bd tg q A1 A2 A3 c1 c2 c3 w.heap.size base.heap.size base W b1 hl b2 b3 b4 b5 b6 b7 b8 (body_short HTL.out b6) b9 hP
      rw [hR] at hS0
      have HRV := Lib.hid hR
      clear hR hre htl
      by_cases h0 : rv.2 = 0
      rotate_left
      · have hS : ∀ (A1 A2 A3 : Option Addr) (c1 c2 c3 : Nat) (base W : World), RdK base A ks → Boxed base w.heap.size 22 (.slice A ks.length c) → RdI base .u8 A1 bd → RdI base .u8 A2 tg → RdF base A3 q → (∀ x ∈ bd, 0 ≤ x ∧ x < 256) → (∀ x ∈ tg, 0 ≤ x ∧ x < 256) → q.length ≤ 9223372036854775807 → tg.length ≤ 32 →
            DecP ks bd tg q w.heap.size base.heap.size (.slice A1 bd.length c1) (.slice A2 tg.length c2) (.slice A3 q.length c3) base 0 W →
            Calls Try.prog 26 #[.slice (some ⟨base.heap.size + 1 + 1 + 1 + 1 + 1, 0, none⟩) 3 3] W fun e W' => e = .returned (.int .i64 rv.2) ∧ Below base.heap.size base W' ∧ rv.1 = zL := by
          intro A1 A2 A3 c1 c2 c3 base W b1 b2 b3 b4 b5 b6 b7 b8 b9 hP
          refine (hS0 A1 A2 A3 c1 c2 c3 base W b1 b2 b3 b4 b5 b6 b7 b8 b9 hP).mono ?_
          rintro e W' ⟨z, rfl, h1, h2⟩
          by_cases hz : z = 0
          · obtain ⟨k, Bk, ck, ⟨g1, g2, g3⟩, _⟩ := h1 hz
            have := decF_ok g1 g2 g3
            rw [HRV.out] at this
            exact absurd (congrArg Prod.snd this) h0
          · obtain ⟨g1, g2⟩ := h2 hz
            rw [g2]
            exact ⟨rfl, g1, rfl⟩
        have hzb : (rv.2 != 0) = true := by simpa using h0
        clear hS0 h0
        go_enter Try.func13, Try.ntmps13
        go_wp2_with (first | (go_at_call 28; (with_reducible refine (hI _ HR2.out).mono ?_); rintro e w1 ⟨rfl, hb1⟩; have HB1 := Lib.hid hb1; clear hb1) | (go_at_call 41; (with_reducible refine (hO _ (HRS2.out.below HB1.out)).mono ?_); rintro e w2 ⟨A1, A2, A3, c1, c2, c3, rfl, k1, k2, k3, k4, k5, k6, k7, hb2⟩; have HB3 := Lib.hid (bT (bT HB2.out HB1.out) hb2); have hF2 := (hb2.block (w.heap.size + 1) (Nat.lt_of_lt_of_le (by simp) HB1.out.size)).trans ((HB1.out.block (w.heap.size + 1) (by simp)).trans HF0.out); have HF3 : Hid (∀ o1 o2 o3, (((w2.alloc o1).alloc o2).alloc o3).heap[w.heap.size + 1]? = some (.cells #[.int .i64 0, .int .i64 0, .int .i64 0, .int .i64 0, .int .i64 0, .int .i64 0, .int .i64 0, .int .i64 0, .int .i64 0, .int .i64 0, .int .i64 0, .int .i64 0, .int .i64 0, .int .i64 0, .int .i64 0] 28 (0, 0))) := Lib.hid (fun o1 o2 o3 => ((bA (bA (bel1 w2 o1) o2) o3).block _ (Array.getElem?_eq_some_iff.1 hF2).1).trans hF2); have HF2 := Lib.hid hF2; have HL2 := Lib.hid (boxed_below (boxed_below HL0.out HB1.out) hb2); have HK2 := Lib.hid ((HR2.out.below HB1.out (Nat.le_refl _)).below hb2 (Nat.le_refl _)); have H1 := Lib.hid k1; have H2 := Lib.hid k2; have H3 := Lib.hid k3; have H4 := Lib.hid k4; have H5 := Lib.hid k5; clear hb2 hF2 k1 k2 k3 k4 k5) | (go_at_call 26; refine (hS A1 A2 A3 c1 c2 c3 w2 _ HK2.out HL2.out H1.out H2.out H3.out H4.out H5.out k6 k7 (dec_start _ _ _ _ _)).mono ?_; rintro e w6 ⟨rfl, hb6, hr1⟩; have HV := Lib.hid hr1; have hF6 := (hb6.block (w.heap.size + 1) (Array.getElem?_eq_some_iff.1 HF2.out).1).trans HF2.out; have HB6 := Lib.hid hb6; clear hr1 hb6) | (refine wpList_store_row rfl 28 _ _ rfl (w.heap.size + 1) #[.int .i64 0, .int .i64 0, .int .i64 0, .int .i64 0, .int .i64 0, .int .i64 0, .int .i64 0, .int .i64 0, .int .i64 0, .int .i64 0, .int .i64 0, .int .i64 0, .int .i64 0, .int .i64 0, .int .i64 0] rfl rfl 28 _ hF6 ?_ ?_ ?_ ?_; (focus (exact infoRd)); (focus rfl); (focus (simp [Value.oneCell']))))
        exact dcPost z15_eq rfl rfl rfl HV.out rfl hF6 (bT HB3.out HB6.out)
      · have hS : ∀ (A1 A2 A3 : Option Addr) (c1 c2 c3 : Nat) (base W : World), RdK base A ks → Boxed base w.heap.size 22 (.slice A ks.length c) → RdI base .u8 A1 bd → RdI base .u8 A2 tg → RdF base A3 q → (∀ x ∈ bd, 0 ≤ x ∧ x < 256) → (∀ x ∈ tg, 0 ≤ x ∧ x < 256) → q.length ≤ 9223372036854775807 → tg.length ≤ 32 →
            DecP ks bd tg q w.heap.size base.heap.size (.slice A1 bd.length c1) (.slice A2 tg.length c2) (.slice A3 q.length c3) base 0 W →
            Calls Try.prog 26 #[.slice (some ⟨base.heap.size + 1 + 1 + 1 + 1 + 1, 0, none⟩) 3 3] W fun e W' => e = .returned (.int .i64 0) ∧ Below base.heap.size base W' ∧ rv = ((fgE q).1, 0) ∧ W'.heap[base.heap.size + 1 + 1 + 1]? = some (.cells (iv (fgE q).1).toArray 28 (0, 0)) := by
          intro A1 A2 A3 c1 c2 c3 base W b1 b2 b3 b4 b5 b6 b7 b8 b9 hP
          refine (hS0 A1 A2 A3 c1 c2 c3 base W b1 b2 b3 b4 b5 b6 b7 b8 b9 hP).mono ?_
          rintro e W' ⟨z, rfl, h1, h2⟩
          by_cases hz : z = 0
          · obtain ⟨k, Bk, ck, ⟨g1, g2, g3⟩, g4⟩ := h1 hz
            have := decF_ok g1 g2 g3
            rw [HRV.out] at this
            exact ⟨by rw [hz], g4.2.2.2.2.2.2.1, this, g4.2.2.2.1⟩
          · obtain ⟨g1, g2⟩ := h2 hz
            rw [g2] at h0
            exact absurd h0 hz
        have hlen := fgE_len q
        generalize (fgE q).1 = lr at *
        have HLN := Lib.hid hlen
        clear hS0 h0 hlen
        go_enter Try.func13, Try.ntmps13
        go_wp2_with (first | (go_at_call 28; (with_reducible refine (hI _ HR2.out).mono ?_); rintro e w1 ⟨rfl, hb1⟩; have HB1 := Lib.hid hb1; clear hb1) | (go_at_call 41; (with_reducible refine (hO _ (HRS2.out.below HB1.out)).mono ?_); rintro e w2 ⟨A1, A2, A3, c1, c2, c3, rfl, k1, k2, k3, k4, k5, k6, k7, hb2⟩; have HB3 := Lib.hid (bT (bT HB2.out HB1.out) hb2); have hF2 := (hb2.block (w.heap.size + 1) (Nat.lt_of_lt_of_le (by simp) HB1.out.size)).trans ((HB1.out.block (w.heap.size + 1) (by simp)).trans HF0.out); have HF3 : Hid (∀ o1 o2 o3, (((w2.alloc o1).alloc o2).alloc o3).heap[w.heap.size + 1]? = some (.cells #[.int .i64 0, .int .i64 0, .int .i64 0, .int .i64 0, .int .i64 0, .int .i64 0, .int .i64 0, .int .i64 0, .int .i64 0, .int .i64 0, .int .i64 0, .int .i64 0, .int .i64 0, .int .i64 0, .int .i64 0] 28 (0, 0))) := Lib.hid (fun o1 o2 o3 => ((bA (bA (bel1 w2 o1) o2) o3).block _ (Array.getElem?_eq_some_iff.1 hF2).1).trans hF2); have HF2 := Lib.hid hF2; have HL2 := Lib.hid (boxed_below (boxed_below HL0.out HB1.out) hb2); have HK2 := Lib.hid ((HR2.out.below HB1.out (Nat.le_refl _)).below hb2 (Nat.le_refl _)); have H1 := Lib.hid k1; have H2 := Lib.hid k2; have H3 := Lib.hid k3; have H4 := Lib.hid k4; have H5 := Lib.hid k5; clear hb2 hF2 k1 k2 k3 k4 k5) | (go_at_call 26; refine (hS A1 A2 A3 c1 c2 c3 w2 _ HK2.out HL2.out H1.out H2.out H3.out H4.out H5.out k6 k7 (dec_start _ _ _ _ _)).mono ?_; rintro e w6 ⟨rfl, hb6, hr1, hr6⟩; have HV := Lib.hid hr1; have hF6 := (hb6.block (w.heap.size + 1) (Array.getElem?_eq_some_iff.1 HF2.out).1).trans HF2.out; have HB6 := Lib.hid hb6; clear hr1 hb6) | (refine wpList_load_row rfl 28 (.tmp 10) rfl (w2.heap.size + 1 + 1 + 1) rfl 28 (iv lr).toArray (0, 0) _ hr6 Try.underlying28 rfl ?_ ?_; (focus (rw [List.size_toArray, iv_len, HLN.out]; exact infoRd))) | (refine wpList_store_row rfl 28 _ _ rfl (w.heap.size + 1) (iv lr).toArray rfl rfl 28 _ hF6 ?_ ?_ ?_ ?_; (focus (rw [List.size_toArray, iv_len, HLN.out]; exact infoRd)); (focus (show 15 = (iv lr).toArray.size; rw [List.size_toArray, iv_len, HLN.out])); (focus (exact all_one (iv_one _)))))
        exact dcPost rfl rfl rfl (by rw [HV.out] <;> rfl) (by rw [HV.out] <;> rfl) HLN.out hF6 (bT HB3.out HB6.out)
end Go.Proofs.Ytachkhjbckapoaa

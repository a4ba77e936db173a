/- Layer 19: the third step of barcode.Decode. Layer 19: what barcode.Decode computes. Layer 19, the plain laws: what was encoded is decoded again, what is decoded is encoded as it was, a tag that is changed is refused. No condition. -/
import Derived.Test.YtachkhjbckapoaaB30
namespace Go.Proofs.Ytachkhjbckapoaa
open Go.RowKit
set_option linter.unusedVariables false
set_option maxRecDepth 100000
set_option linter.unusedSimpArgs false

set_option maxHeartbeats 4000000 in
theorem dec3_any (L N : Nat) (A1 A2 Bk : Option Addr) (c1 c2 ck : Nat) (bd tg : List Int) (k : Ky) (fv : Value) (rcs gcs : Array Value) (base W : World) (hb : RdI base .u8 A1 bd) (ht : RdI base .u8 A2 tg) (hs : RdI base .u8 Bk k.sec) (hbb : ∀ x ∈ bd, 0 ≤ x ∧ x < 256) (htb : ∀ x ∈ tg, 0 ≤ x ∧ x < 256) (hsb : ∀ x ∈ k.sec, 0 ≤ x ∧ x < 256)
    (hbl : bd.length ≤ 65535) (htl : tg.length ≤ 32) (hkl : k.sec.length ≤ 64) (bb : Bool) (hbe : (tg == tagN k.sec (66 :: bd)) = bb) (hM : DecM L N (.slice A1 bd.length c1) (.slice A2 tg.length c2) fv rcs (keyC (some k) Bk ck) gcs base W) :
    Calls Try.prog 45 #[.pointer (some ⟨N + 1 + 1 + 1 + 1, 0, none⟩), .pointer (some ⟨N, 0, none⟩), .pointer (some ⟨N + 1, 0, none⟩)] W fun e W' => e = .returned (.int .i64 (if bb then 0 else 11)) ∧ DecM L N (.slice A1 bd.length c1) (.slice A2 tg.length c2) fv rcs (keyC (some k) Bk ck) gcs base W' := by
  have hbW := hM.2.2.2.2.2.2.1
  have hcK : W.cell? ⟨N + 1 + 1 + 1 + 1, 1, none⟩ = some (.slice Bk k.sec.length ck) := cell_of_row W _ 1 _ _ _ hM.2.2.2.2.1
  have hcB := hM.1.cell
  have hcT := hM.2.1.cell
  have hT := bcTag_any Bk A1 ck c1 k.sec bd W (hs.below hbW) (hb.below hbW) (by omega) (by omega) hsb hbb
  have hTl := tagN_len k.sec (66 :: bd)
  have hTb := tagN_byte k.sec (66 :: bd)
  generalize tagN k.sec (66 :: bd) = TG at *
  have HTL := Lib.hid hTl
  have HM := Lib.hid hM
  have HT := Lib.hid (ht.below hbW)
  clear hM hTl hb hs ht
  go_enter Try.func45, Try.ntmps45
  go_wp2_with fail
  refine hT.mono ?_
  rintro e w7 ⟨rfl, b7⟩
  obtain ⟨w8, hw8, i8, b8, z8⟩ := newRow w7 (bv (List.replicate 32 0)).toArray (bv TG).toArray 42
  have HW8 := Lib.hid hw8
  have hc8 := keep_cell b8 (keep_cell b7 hcT)
  have HM8 := Lib.hid ((HM.out.below b7).below b8)
  have hrd : RdI w8.drew .u8 (some ⟨w7.heap.size, 0, none⟩) TG := rd_row (w := w8) i8
  have htd : RdI w8.drew .u8 A2 tg := (HT.out.below b7).below (bD b8)
  have hSm := sealSame_any A2 (some ⟨w7.heap.size, 0, none⟩) c2 32 tg TG w8.drew htd hrd (by omega) (by rw [HTL.out]; omega) htb hTb
  rw [HTL.out, hbe] at hSm
  have hcd : w8.drew.cell? ⟨N + 1, 0, none⟩ = some (.slice A2 tg.length c2) := hc8
  clear hw8 i8 b7 b8 hcB hcT hcK hT hrd htd hTb hc8
  go_wp2_with (refine wpList_store_row rfl 42 _ _ rfl w7.heap.size (bv TG).toArray rfl rfl 42 _ (heap_alloc_new w7 _) ?_ ?_ (all_one (bv_one _)) ?_; (focus (rw [List.size_toArray, bv_len, HTL.out]; exact info32)); (focus (show 32 = (bv TG).toArray.size; rw [List.size_toArray, bv_len, HTL.out])); generalize hW8 : World.setRow _ _ _ = w88; obtain rfl : w8 = w88 := (by rw [← HW8.out, ← hW8]; kernel_rfl))
  go_region_held3 (fun w9 => w9.cell? ⟨N + 1, 0, none⟩ = some (.slice A2 tg.length c2)) (assumption) ((go_at_call 46; (with_reducible refine hSm.mono ?_); rintro e w9 ⟨rfl, b9⟩; have hc9 := keep_cell b9 hcd))
  cases bb
  · go_wp2
    go_ret
    exact ⟨rfl, (HM8.out.below (Below.refl _ _).drew).below b9⟩
  · go_wp2
    go_ret
    exact ⟨rfl, (HM8.out.below (Below.refl _ _).drew).below b9⟩
end Go.Proofs.Ytachkhjbckapoaa

namespace Go.Proofs.Ytachkhjbckapoaa
open Go.RowKit
set_option linter.unusedVariables false
set_option maxRecDepth 100000
set_option linter.unusedSimpArgs false

def decG (L N : Nat) : Array Value := #[.func (.func 42) #[] #[.pointer (some ⟨N + 1 + 1, 0, none⟩), .pointer (some ⟨N + 1 + 1 + 1, 0, none⟩)], .func (.func 44) #[] #[.pointer (some ⟨L, 0, none⟩), .pointer (some ⟨N + 1 + 1 + 1, 0, none⟩), .pointer (some ⟨N + 1 + 1 + 1 + 1, 0, none⟩)], .func (.func 45) #[] #[.pointer (some ⟨N + 1 + 1 + 1 + 1, 0, none⟩), .pointer (some ⟨N, 0, none⟩), .pointer (some ⟨N + 1, 0, none⟩)]]
def DecP (ks : List Ky) (bd tg : List Int) (q : List Fd) (L N : Nat) (vb vt vf : Value) (base : World) : Nat → World → Prop
  | 0, W => DecM L N vb vt vf (iv zL).toArray kz (decG L N) base W
  | 1, W => (fgE q).2 = 0 ∧ DecM L N vb vt vf (iv (fgE q).1).toArray kz (decG L N) base W
  | 2, W => ∃ (k : Ky) (Bk : Option Addr) (ck : Nat), ((fgE q).2 = 0 ∧ findE ks ((fgE q).1.getD 11 0) = (some k, 0) ∧ RdI base .u8 Bk k.sec ∧ (∀ x ∈ k.sec, 0 ≤ x ∧ x < 256) ∧ rightB k = true) ∧ DecM L N vb vt vf (iv (fgE q).1).toArray (keyC (some k) Bk ck) (decG L N) base W
  | 3, W => ∃ (k : Ky) (Bk : Option Addr) (ck : Nat), ((fgE q).2 = 0 ∧ findE ks ((fgE q).1.getD 11 0) = (some k, 0) ∧ (tg == tagN k.sec (66 :: bd)) = true) ∧ DecM L N vb vt vf (iv (fgE q).1).toArray (keyC (some k) Bk ck) (decG L N) base W
  | _, _ => False
theorem decM_func {L N k : Nat} {bv' tv fv : Value} {rcs kcs gcs : Array Value} {base W : World} (h : DecM L N bv' tv fv rcs kcs gcs base W) : W.cell? ⟨N + 1 + 1 + 1 + 1 + 1, k, none⟩ = gcs[k]? := cell_of_row _ _ k _ _ _ h.2.2.2.2.2.1
theorem decP_func {ks : List Ky} {bd tg : List Int} {q : List Fd} {L N : Nat} {vb vt vf : Value} {base : World} (n : Nat) (W : World) (h : DecP ks bd tg q L N vb vt vf base n W) (k : Nat) : W.cell? ⟨N + 1 + 1 + 1 + 1 + 1, k, none⟩ = (decG L N)[k]? := by
  match n, h with
  | 0, h => exact decM_func (L := L) h
  | 1, ⟨_, h⟩ => exact decM_func (L := L) h
  | 2, ⟨_, _, _, _, h⟩ => exact decM_func (L := L) h
  | 3, ⟨_, _, _, _, h⟩ => exact decM_func (L := L) h
theorem decSteps_any (A : Option Addr) (c : Nat) (ks : List Ky) (bd tg : List Int) (q : List Fd) (A1 A2 A3 : Option Addr) (c1 c2 c3 L N : Nat) (base W : World) (hr : RdK base A ks) (hl : ks.length ≤ 9223372036854775807) (hL : Boxed base L 22 (.slice A ks.length c))
    (hb : RdI base .u8 A1 bd) (ht : RdI base .u8 A2 tg) (hF : RdF base A3 q) (hbb : ∀ x ∈ bd, 0 ≤ x ∧ x < 256) (htb : ∀ x ∈ tg, 0 ≤ x ∧ x < 256) (hql : q.length ≤ 9223372036854775807) (hbl : bd.length ≤ 65535) (htl : tg.length ≤ 32)
    (h0 : DecP ks bd tg q L N (.slice A1 bd.length c1) (.slice A2 tg.length c2) (.slice A3 q.length c3) base 0 W) :
    Calls Try.prog 26 #[.slice (some ⟨N + 1 + 1 + 1 + 1 + 1, 0, none⟩) 3 3] W
      (StepRet (DecP ks bd tg q L N (.slice A1 bd.length c1) (.slice A2 tg.length c2) (.slice A3 q.length c3) base 3) (fun z W' => Below base.heap.size base W' ∧ decF ks bd tg q = (zL, z))) := by
  refine steps_any _ 42 44 45 _ _ _ _ _ W h0 (fun k W' h => ⟨decP_func k W' h 0, decP_func k W' h 1, decP_func k W' h 2⟩) (fun _ => rfl) (fun _ => rfl) (fun _ => rfl) ?_ ?_ ?_
  · intro W' hM
    refine (dec1_any L N _ _ A3 c3 q _ _ _ rfl base W' hF hql hM).mono ?_
    rintro e W2 ⟨rfl, hM2⟩
    refine ⟨_, rfl, fun hz => ⟨hz, hM2⟩, fun hz => ⟨hM2.2.2.2.2.2.2.1, ?_⟩⟩
    unfold decF
    rw [if_pos hz]
  · rintro W' ⟨hz, hM⟩
    refine (dec2_any L N _ _ _ A c ks (fgE q).1 (fgE_len q) _ _ rfl base W' hr hl hL hM).mono ?_
    rintro e W2 ⟨Bk, ck, rfl, hk, hM2⟩
    refine ⟨_, rfl, fun hz2 => ?_, fun hz2 => ⟨hM2.2.2.2.2.2.2.1, ?_⟩⟩
    · cases hf : (findE ks ((fgE q).1.getD 11 0)).1 with
      | none => exact absurd hz2 (findE_none hf)
      | some k =>
        rw [hf] at hM2
        obtain ⟨k1, k2, k3, k4, k5, k6⟩ := hk k hf
        exact ⟨k, Bk, ck, ⟨hz, findE_some hf, k3, k4, k5⟩, hM2⟩
    · unfold decF
      rw [if_neg (fun h => h hz)]
      cases hf : (findE ks ((fgE q).1.getD 11 0)).1 with
      | none => rw [show findE ks ((fgE q).1.getD 11 0) = (none, (findE ks ((fgE q).1.getD 11 0)).2) by rw [← hf]]
      | some k =>
        have := findE_some hf
        rw [this] at hz2
        exact absurd rfl hz2
  · rintro W' ⟨k, Bk, ck, ⟨hz, hf, k3, k4, k5⟩, hM⟩
    obtain ⟨bb, hbe⟩ : ∃ bb, (tg == tagN k.sec (66 :: bd)) = bb := ⟨_, rfl⟩
    refine (dec3_any L N A1 A2 Bk c1 c2 ck bd tg k _ _ _ base W' hb ht k3 hbb htb k4 hbl htl (rightB_len k5).2 bb hbe hM).mono ?_
    rintro e W2 ⟨rfl, hM2⟩
    refine ⟨_, rfl, fun hz2 => ⟨k, Bk, ck, ⟨hz, hf, ?_⟩, hM2⟩, fun hz2 => ⟨hM2.2.2.2.2.2.2.1, ?_⟩⟩
    · cases bb
      · simp at hz2
      · exact hbe
    · unfold decF
      rw [if_neg (fun h => h hz), hf]
      cases bb
      · simp only
        rw [if_neg (by rw [hbe]; simp)]
        rfl
      · simp at hz2
theorem decF_ok {ks : List Ky} {bd tg : List Int} {q : List Fd} {k : Ky} (h1 : (fgE q).2 = 0) (h2 : findE ks ((fgE q).1.getD 11 0) = (some k, 0)) (h3 : (tg == tagN k.sec (66 :: bd)) = true) : decF ks bd tg q = ((fgE q).1, 0) := by
  unfold decF
  rw [if_neg (fun h => h h1), h2]
  simp only
  rw [if_pos h3]
end Go.Proofs.Ytachkhjbckapoaa

namespace Go.Proofs.Ytachkhjbckapoaa
open Go.RowKit
set_option linter.unusedVariables false
set_option maxRecDepth 100000
set_option linter.unusedSimpArgs false

theorem fp_bytes : ∀ (n : Nat) (l : List Int) (acc : List Fd), (∀ f ∈ acc, ∀ x ∈ f.val, 0 ≤ x ∧ x < 256) → ∀ f ∈ (fpGo l n acc).1, ∀ x ∈ f.val, 0 ≤ x ∧ x < 256
  | 0, l, acc, h => h
  | n + 1, l, acc, h => by
    rw [fpGo_succ]
    split
    · exact fp_bytes n l acc h
    split
    · exact fp_bytes n l acc h
    split
    · simp
    · refine fp_bytes n l _ (fun f hf => ?_)
      rcases List.mem_append.1 hf with hf | hf
      · exact h f hf
      · obtain rfl := List.mem_singleton.1 hf
        exact numL_byte _
theorem put_bytes {q : List Fd} (ht : tlvB 0 q = true) (hv : ∀ f ∈ q, ∀ x ∈ f.val, 0 ≤ x ∧ x < 256) : ∀ x ∈ putF q, 0 ≤ x ∧ x < 256 := by
  obtain ⟨_, t4⟩ := tlvB_facts _ 0 ht (by omega)
  exact putF_byte q (fun f hf => by have := t4 f hf; exact ⟨⟨by omega, by omega⟩, this.2.2, hv f hf⟩)
theorem val_in_put : ∀ (q : List Fd), ∀ f ∈ q, ∀ x ∈ f.val, x ∈ putF q
  | [], f, hf, x, hx => by simp at hf
  | g :: t, f, hf, x, hx => by
    rw [putF_cons]
    rcases List.mem_cons.1 hf with rfl | hf
    · simp [hx]
    · have := val_in_put t f hf x hx
      simp [this]
/-- What encoding without an error says of its parts. -/
theorem enc_parts {ks : List Ky} {l s : List Int} (hl : l.length = 15) (h : encE ks l = (s, 0)) : ∃ (q : List Fd) (k : Ky), ringB ks = true ∧ fpE l = (q, 0) ∧ readB l = true ∧ tlvB 0 q = true ∧ fgE q = (l, 0) ∧ findE ks (l.getD 11 0) = (some k, 0) ∧ s = fortyPut (putF q ++ tagN k.sec (66 :: putF q)) ∧ (∀ x ∈ putF q, 0 ≤ x ∧ x < 256) := by
  unfold encE at h
  by_cases h1 : (encF ks l).2 ≠ 0
  · rw [if_pos h1] at h
    simp only [Prod.mk.injEq] at h
    exact absurd h.2 h1
  rw [if_neg h1] at h
  have hr : ringB ks = true := by
    cases hr : ringB ks with
    | true => rfl
    | false => exact absurd (by unfold encF; rw [hr]; simp) h1
  have hF : encF ks l = fpE l := by unfold encF; rw [hr]; rfl
  rw [hF] at h h1
  have h1' : (fpE l).2 = 0 := Classical.not_not.1 h1
  obtain ⟨q, hq⟩ : ∃ q, fpE l = (q, 0) := ⟨(fpE l).1, by rw [← h1']⟩
  obtain ⟨b1, b2, b3⟩ := fields_back hl hq
  have hv : ∀ f ∈ q, ∀ x ∈ f.val, 0 ≤ x ∧ x < 256 := by
    have := fp_bytes 13 l [] (by simp)
    have e : fpE l = fpGo l 13 [] := by unfold fpE; rw [if_pos b1]
    rw [← e, hq] at this
    exact this
  rw [hq] at h
  cases hf : (findE ks (l.getD 11 0)).1 with
  | none =>
    rw [show findE ks (l.getD 11 0) = (none, (findE ks (l.getD 11 0)).2) by rw [← hf]] at h
    simp only [Prod.mk.injEq] at h
    exact absurd h.2 (findE_none hf)
  | some k =>
    have hk := findE_some hf
    rw [hk] at h
    simp only at h
    have hp : (putE17 q).2 = 0 := by unfold putE17; rw [if_pos b2]
    rw [if_neg (fun h => h hp)] at h
    simp only [Prod.mk.injEq, and_true] at h
    exact ⟨q, k, hr, hq, b1, b2, b3, hk, h.symm, put_bytes b2 hv⟩
theorem open_put {b t : List Int} {q : List Fd} (hb : ∀ x ∈ b, 0 ≤ x ∧ x < 256) (ht : ∀ x ∈ t, 0 ≤ x ∧ x < 256) (hl : t.length = 32) (hq : tlvGet b = (q, 0)) : openE (fortyPut (b ++ t)) = ((b, t, q), 0) := by
  have hg : fortyGet (fortyPut (b ++ t)) = (b ++ t, 0) := fortyGet_put (fun x hx => by
    rcases List.mem_append.1 hx with hx | hx
    · exact hb x hx
    · exact ht x hx)
  have hn : (b ++ t).length - 32 = b.length := by rw [List.length_append]; omega
  unfold openE
  rw [hg]
  simp only
  rw [if_neg (by simp), if_neg (by rw [List.length_append]; omega), hn, List.take_left, List.drop_left, hq]
theorem decE_open {ks : List Ky} {s b t : List Int} {q : List Fd} (hr : ringB ks = true) (h : openE s = ((b, t, q), 0)) : decE ks s = decF ks b t q := by
  unfold decE
  rw [if_neg (by rw [hr]; simp), h]
  simp only
  rw [if_neg (by simp)]
theorem numL_one {v : Int} (h : 1 ≤ v ∧ v ≤ 3) : numL v = [v] := by
  have : v = 1 ∨ v = 2 ∨ v = 3 := by omega
  rcases this with rfl | rfl | rfl <;> decide
theorem fp_ver {l : List Int} {q : List Fd} (h : fpE l = (q, 0)) (hr : readB l = true) : verF q = (l.getD 14 0, 0) := by
  obtain ⟨_, _, _, hv⟩ := readB_facts hr
  have e : fpE l = fpGo l 13 [] := by unfold fpE; rw [if_pos hr]
  rw [e, fpGo_succ] at h
  have p1 : plc (13 - ((12 : Nat) : Int)) = 14 := rfl
  rw [p1, if_neg (by omega), if_neg (by omega), if_neg (by show ¬ (l.getD 14 0 < 1); omega)] at h
  obtain ⟨m, hm, _⟩ := fp_fg 12 (by omega) l _ q h (nums_bound hr)
  rw [hm, numL_one hv]
  show (if (13 - ((12 : Nat) : Int)) ≠ 1 ∨ [l.getD 14 0].length ≠ 1 ∨ l.getD 14 0 < 1 ∨ 3 < l.getD 14 0 then ((0 : Int), (12 : Int)) else (l.getD 14 0, 0)) = _
  rw [if_neg (by
    rintro (h | h | h | h)
    · exact h (by omega)
    · exact h rfl
    · omega
    · omega)]
/-- What was encoded is decoded again. -/
theorem enc_dec {ks : List Ky} {l s : List Int} (hl : l.length = 15) (h : encE ks l = (s, 0)) : decE ks s = (l, 0) ∧ verW s = (l.getD 14 0, 0) := by
  obtain ⟨q, k, h1, h2, h3, h4, h5, h6, rfl, h8⟩ := enc_parts hl h
  have ho := open_put h8 (tagN_byte k.sec (66 :: putF q)) (tagN_len _ _) (tlvGet_put h4)
  refine ⟨?_, ?_⟩
  · rw [decE_open h1 ho, decF_ok (q := q) (k := k) (by rw [h5]) (by rw [h5]; exact h6) (by simp), h5]
  · unfold verW
    rw [ho]
    simp only
    rw [if_neg (by simp), fp_ver h2 h3]
theorem dec_parts {ks : List Ky} {l s : List Int} (h : decE ks s = (l, 0)) : ∃ (b t : List Int) (q : List Fd) (k : Ky), ringB ks = true ∧ openE s = ((b, t, q), 0) ∧ fgE q = (l, 0) ∧ findE ks (l.getD 11 0) = (some k, 0) ∧ t = tagN k.sec (66 :: b) := by
  unfold decE at h
  cases hr : ringB ks with
  | false => rw [hr] at h; simp at h
  | true =>
    rw [hr, if_neg (by simp)] at h
    by_cases h1 : (openE s).2 ≠ 0
    · rw [if_pos h1] at h; simp only [Prod.mk.injEq] at h; exact absurd h.2 h1
    rw [if_neg h1] at h
    have h1' := Classical.not_not.1 h1
    generalize ho : openE s = r at *
    obtain ⟨⟨b, t, q⟩, e1⟩ := r
    simp only at h1' h
    subst h1'
    unfold decF at h
    by_cases h2 : (fgE q).2 ≠ 0
    · rw [if_pos h2] at h; simp only [Prod.mk.injEq] at h; exact absurd h.2 h2
    rw [if_neg h2] at h
    have h2' := Classical.not_not.1 h2
    cases hf : (findE ks ((fgE q).1.getD 11 0)).1 with
    | none =>
      rw [show findE ks ((fgE q).1.getD 11 0) = (none, (findE ks ((fgE q).1.getD 11 0)).2) by rw [← hf]] at h
      simp only [Prod.mk.injEq] at h
      exact absurd h.2 (findE_none hf)
    | some k =>
      have hk := findE_some hf
      rw [hk] at h
      simp only at h
      by_cases h3 : (t == tagN k.sec (66 :: b)) = true
      · rw [if_pos h3] at h
        simp only [Prod.mk.injEq, and_true] at h
        rw [h] at hk
        exact ⟨b, t, q, k, rfl, rfl, by rw [← h, ← h2'], hk, by simpa using h3⟩
      · rw [if_neg h3] at h; simp at h
theorem open_parts {s b t : List Int} {q : List Fd} (h : openE s = ((b, t, q), 0)) : fortyGet s = (b ++ t, 0) ∧ tlvGet b = (q, 0) ∧ t.length = 32 := by
  unfold openE at h
  by_cases h1 : (fortyGet s).2 ≠ 0
  · rw [if_pos h1] at h; simp only [Prod.mk.injEq] at h; exact absurd h.2 h1
  rw [if_neg h1] at h
  have h1' := Classical.not_not.1 h1
  by_cases h2 : (fortyGet s).1.length < 32
  · rw [if_pos h2] at h; simp at h
  rw [if_neg h2] at h
  simp only [Prod.mk.injEq] at h
  obtain ⟨⟨h3, h4, h5⟩, h6⟩ := h
  refine ⟨Prod.ext ?_ h1', Prod.ext ?_ ?_, ?_⟩
  · rw [← h3, ← h4]; exact (List.take_append_drop _ _).symm
  · rw [← h3]; exact h5
  · rw [← h3]; exact h6
  · rw [← h4, List.length_drop]; omega
/-- What is decoded is encoded as it was. -/
theorem dec_enc {ks : List Ky} {l s : List Int} (h : decE ks s = (l, 0)) : l.length = 15 ∧ encE ks l = (s, 0) ∧ verW s = (l.getD 14 0, 0) := by
  obtain ⟨b, t, q, k, h1, h2, h3, h4, rfl⟩ := dec_parts h
  obtain ⟨g1, g2, g3⟩ := open_parts h2
  obtain ⟨g4, g5⟩ := fortyPut_get g1
  have hbb : ∀ x ∈ b, 0 ≤ x ∧ x < 256 := fun x hx => g5 x (List.mem_append_left _ hx)
  obtain ⟨p1, p2⟩ := tlvPut_get g2 hbb
  obtain ⟨f1, f2, f3⟩ := fields_one h3 (fun f hf x hx => hbb x (by rw [← p1]; exact val_in_put q f hf x hx))
  have hF : encF ks l = (q, 0) := by unfold encF; rw [h1]; exact f3
  have hp : (putE17 q).2 = 0 := by unfold putE17; rw [if_pos p2]
  have he : encE ks l = (s, 0) := by
    rw [encE_ok (k := k) (by rw [hF]) h4 (by rw [hF]; exact hp), hF, (tlvB_vals hp).2, p1, g4]
  exact ⟨f1, he, (enc_dec f1 he).2⟩
/-- A tag that is changed is refused. -/
theorem seal_bad {ks : List Ky} {l s b c : List Int} {i : Nat} {y : Int} (hl : l.length = 15) (h : encE ks l = (s, 0)) (hb : fortyGet s = (b, 0)) (hi : b.length - 32 ≤ i) (hi2 : i < b.length) (hy : 0 ≤ y ∧ y < 256) (hne : y ≠ b.getD i 0) (hc : c = b.set i y) : (decE ks (fortyPut c)).2 = 11 := by
  obtain ⟨q, k, h1, h2, h3, h4, h5, h6, rfl, h8⟩ := enc_parts hl h
  rw [fortyGet_put (fun x hx => by
    rcases List.mem_append.1 hx with hx | hx
    · exact h8 x hx
    · exact tagN_byte _ _ x hx)] at hb
  obtain rfl : putF q ++ tagN k.sec (66 :: putF q) = b := by simpa using hb
  have hT := tagN_len k.sec (66 :: putF q)
  have hTb := tagN_byte k.sec (66 :: putF q)
  rw [List.length_append, hT] at hi hi2
  generalize hTG : tagN k.sec (66 :: putF q) = TG at *
  have hs : (putF q ++ TG).set i y = putF q ++ TG.set (i - (putF q).length) y := by
    rw [List.set_append_right _ _ (by omega)]
  rw [hc, hs]
  have hbad : (TG.set (i - (putF q).length) y == TG) = false := by
    rw [beq_eq_false_iff_ne]
    intro e
    have e2 : (TG.set (i - (putF q).length) y).getD (i - (putF q).length) 0 = TG.getD (i - (putF q).length) 0 := by rw [e]
    rw [getD_set_eq (by omega)] at e2
    rw [List.getD_eq_getElem?_getD, List.getElem?_append_right (by omega), ← List.getD_eq_getElem?_getD] at hne
    exact hne e2
  have ho := open_put (t := TG.set (i - (putF q).length) y) h8 (fun x hx => by
    rcases List.mem_or_eq_of_mem_set hx with hx | rfl
    · exact hTb x hx
    · exact hy) (by simpa using hT) (tlvGet_put h4)
  rw [decE_open h1 ho]
  unfold decF
  rw [if_neg (by rw [h5]; simp), h5]
  simp only
  rw [h6]
  simp only
  rw [hTG, if_neg (by rw [hbad]; simp)]
end Go.Proofs.Ytachkhjbckapoaa

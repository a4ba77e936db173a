/- Layer 19, the plain laws: what was encoded is decoded again, what is decoded is encoded as it was, a tag that is changed is refused. No condition. -/
import Derived.Test.YtiogogbkgekkdaaM31
namespace Go.Proofs.Ytiogogbkgekkdaa
open Go.RowKit
set_option linter.unusedVariables false
set_option maxRecDepth 100000
set_option linter.unusedSimpArgs false

theorem fp_bytes : ∀ (n : Nat) (l : List Int) (acc : List Fd), (∀ f ∈ acc, ∀ x ∈ f.val, 0 ≤ x ∧ x < 256) → ∀ f ∈ (fpGo l n acc).1, ∀ x ∈ f.val, 0 ≤ x ∧ x < 256
  | 0, l, acc, h => h
  | n + 1, l, acc, h => by
    rw [fpGo_succ]
    split
    · exact fp_bytes n l acc h
    split
    · exact fp_bytes n l acc h
    split
    · simp
    · refine fp_bytes n l _ (fun f hf => ?_)
      rcases List.mem_append.1 hf with hf | hf
      · exact h f hf
      · obtain rfl := List.mem_singleton.1 hf
        exact numL_byte _
theorem put_bytes {q : List Fd} (ht : tlvB 0 q = true) (hv : ∀ f ∈ q, ∀ x ∈ f.val, 0 ≤ x ∧ x < 256) : ∀ x ∈ putF q, 0 ≤ x ∧ x < 256 := by
  obtain ⟨_, t4⟩ := tlvB_facts _ 0 ht (by omega)
  exact putF_byte q (fun f hf => by have := t4 f hf; exact ⟨⟨by omega, by omega⟩, this.2.2, hv f hf⟩)
theorem val_in_put : ∀ (q : List Fd), ∀ f ∈ q, ∀ x ∈ f.val, x ∈ putF q
  | [], f, hf, x, hx => by simp at hf
  | g :: t, f, hf, x, hx => by
    rw [putF_cons]
    rcases List.mem_cons.1 hf with rfl | hf
    · simp [hx]
    · have := val_in_put t f hf x hx
      simp [this]
/-- What encoding without an error says of its parts. -/
theorem enc_parts {ks : List Ky} {l s : List Int} (hl : l.length = 15) (h : encE ks l = (s, 0)) : ∃ (q : List Fd) (k : Ky), ringB ks = true ∧ fpE l = (q, 0) ∧ readB l = true ∧ tlvB 0 q = true ∧ fgE q = (l, 0) ∧ findE ks (l.getD 11 0) = (some k, 0) ∧ s = fortyPut (putF q ++ tagN k.sec (66 :: putF q)) ∧ (∀ x ∈ putF q, 0 ≤ x ∧ x < 256) := by
  unfold encE at h
  by_cases h1 : (encF ks l).2 ≠ 0
  · rw [if_pos h1] at h
    simp only [Prod.mk.injEq] at h
    exact absurd h.2 h1
  rw [if_neg h1] at h
  have hr : ringB ks = true := by
    cases hr : ringB ks with
    | true => rfl
    | false => exact absurd (by unfold encF; rw [hr]; simp) h1
  have hF : encF ks l = fpE l := by unfold encF; rw [hr]; rfl
  rw [hF] at h h1
  have h1' : (fpE l).2 = 0 := Classical.not_not.1 h1
  obtain ⟨q, hq⟩ : ∃ q, fpE l = (q, 0) := ⟨(fpE l).1, by rw [← h1']⟩
  obtain ⟨b1, b2, b3⟩ := fields_back hl hq
  have hv : ∀ f ∈ q, ∀ x ∈ f.val, 0 ≤ x ∧ x < 256 := by
    have := fp_bytes 13 l [] (by simp)
    have e : fpE l = fpGo l 13 [] := by unfold fpE; rw [if_pos b1]
    rw [← e, hq] at this
    exact this
  rw [hq] at h
  cases hf : (findE ks (l.getD 11 0)).1 with
  | none =>
    rw [show findE ks (l.getD 11 0) = (none, (findE ks (l.getD 11 0)).2) by rw [← hf]] at h
    simp only [Prod.mk.injEq] at h
    exact absurd h.2 (findE_none hf)
  | some k =>
    have hk := findE_some hf
    rw [hk] at h
    simp only at h
    have hp : (putE17 q).2 = 0 := by unfold putE17; rw [if_pos b2]
    rw [if_neg (fun h => h hp)] at h
    simp only [Prod.mk.injEq, and_true] at h
    exact ⟨q, k, hr, hq, b1, b2, b3, hk, h.symm, put_bytes b2 hv⟩
theorem open_put {b t : List Int} {q : List Fd} (hb : ∀ x ∈ b, 0 ≤ x ∧ x < 256) (ht : ∀ x ∈ t, 0 ≤ x ∧ x < 256) (hl : t.length = 32) (hq : tlvGet b = (q, 0)) : openE (fortyPut (b ++ t)) = ((b, t, q), 0) := by
  have hg : fortyGet (fortyPut (b ++ t)) = (b ++ t, 0) := fortyGet_put (fun x hx => by
    rcases List.mem_append.1 hx with hx | hx
    · exact hb x hx
    · exact ht x hx)
  have hn : (b ++ t).length - 32 = b.length := by rw [List.length_append]; omega
  unfold openE
  rw [hg]
  simp only
  rw [if_neg (by simp), if_neg (by rw [List.length_append]; omega), hn, List.take_left, List.drop_left, hq]
theorem decE_open {ks : List Ky} {s b t : List Int} {q : List Fd} (hr : ringB ks = true) (h : openE s = ((b, t, q), 0)) : decE ks s = decF ks b t q := by
  unfold decE
  rw [if_neg (by rw [hr]; simp), h]
  simp only
  rw [if_neg (by simp)]
theorem numL_one {v : Int} (h : 1 ≤ v ∧ v ≤ 3) : numL v = [v] := by
  have : v = 1 ∨ v = 2 ∨ v = 3 := by omega
  rcases this with rfl | rfl | rfl <;> decide
theorem fp_ver {l : List Int} {q : List Fd} (h : fpE l = (q, 0)) (hr : readB l = true) : verF q = (l.getD 14 0, 0) := by
  obtain ⟨_, _, _, hv⟩ := readB_facts hr
  have e : fpE l = fpGo l 13 [] := by unfold fpE; rw [if_pos hr]
  rw [e, fpGo_succ] at h
  have p1 : plc (13 - ((12 : Nat) : Int)) = 14 := rfl
  rw [p1, if_neg (by omega), if_neg (by omega), if_neg (by show ¬ (l.getD 14 0 < 1); omega)] at h
  obtain ⟨m, hm, _⟩ := fp_fg 12 (by omega) l _ q h (nums_bound hr)
  rw [hm, numL_one hv]
  show (if (13 - ((12 : Nat) : Int)) ≠ 1 ∨ [l.getD 14 0].length ≠ 1 ∨ l.getD 14 0 < 1 ∨ 3 < l.getD 14 0 then ((0 : Int), (12 : Int)) else (l.getD 14 0, 0)) = _
  rw [if_neg (by
    rintro (h | h | h | h)
    · exact h (by omega)
    · exact h rfl
    · omega
    · omega)]
/-- What was encoded is decoded again. -/
theorem enc_dec {ks : List Ky} {l s : List Int} (hl : l.length = 15) (h : encE ks l = (s, 0)) : decE ks s = (l, 0) ∧ verW s = (l.getD 14 0, 0) := by
  obtain ⟨q, k, h1, h2, h3, h4, h5, h6, rfl, h8⟩ := enc_parts hl h
  have ho := open_put h8 (tagN_byte k.sec (66 :: putF q)) (tagN_len _ _) (tlvGet_put h4)
  refine ⟨?_, ?_⟩
  · rw [decE_open h1 ho, decF_ok (q := q) (k := k) (by rw [h5]) (by rw [h5]; exact h6) (by simp), h5]
  · unfold verW
    rw [ho]
    simp only
    rw [if_neg (by simp), fp_ver h2 h3]
theorem dec_parts {ks : List Ky} {l s : List Int} (h : decE ks s = (l, 0)) : ∃ (b t : List Int) (q : List Fd) (k : Ky), ringB ks = true ∧ openE s = ((b, t, q), 0) ∧ fgE q = (l, 0) ∧ findE ks (l.getD 11 0) = (some k, 0) ∧ t = tagN k.sec (66 :: b) := by
  unfold decE at h
  cases hr : ringB ks with
  | false => rw [hr] at h; simp at h
  | true =>
    rw [hr, if_neg (by simp)] at h
    by_cases h1 : (openE s).2 ≠ 0
    · rw [if_pos h1] at h; simp only [Prod.mk.injEq] at h; exact absurd h.2 h1
    rw [if_neg h1] at h
    have h1' := Classical.not_not.1 h1
    generalize ho : openE s = r at *
    obtain ⟨⟨b, t, q⟩, e1⟩ := r
    simp only at h1' h
    subst h1'
    unfold decF at h
    by_cases h2 : (fgE q).2 ≠ 0
    · rw [if_pos h2] at h; simp only [Prod.mk.injEq] at h; exact absurd h.2 h2
    rw [if_neg h2] at h
    have h2' := Classical.not_not.1 h2
    cases hf : (findE ks ((fgE q).1.getD 11 0)).1 with
    | none =>
      rw [show findE ks ((fgE q).1.getD 11 0) = (none, (findE ks ((fgE q).1.getD 11 0)).2) by rw [← hf]] at h
      simp only [Prod.mk.injEq] at h
      exact absurd h.2 (findE_none hf)
    | some k =>
      have hk := findE_some hf
      rw [hk] at h
      simp only at h
      by_cases h3 : (t == tagN k.sec (66 :: b)) = true
      · rw [if_pos h3] at h
        simp only [Prod.mk.injEq, and_true] at h
        rw [h] at hk
        exact ⟨b, t, q, k, rfl, rfl, by rw [← h, ← h2'], hk, by simpa using h3⟩
      · rw [if_neg h3] at h; simp at h
theorem open_parts {s b t : List Int} {q : List Fd} (h : openE s = ((b, t, q), 0)) : fortyGet s = (b ++ t, 0) ∧ tlvGet b = (q, 0) ∧ t.length = 32 := by
  unfold openE at h
  by_cases h1 : (fortyGet s).2 ≠ 0
  · rw [if_pos h1] at h; simp only [Prod.mk.injEq] at h; exact absurd h.2 h1
  rw [if_neg h1] at h
  have h1' := Classical.not_not.1 h1
  by_cases h2 : (fortyGet s).1.length < 32
  · rw [if_pos h2] at h; simp at h
  rw [if_neg h2] at h
  simp only [Prod.mk.injEq] at h
  obtain ⟨⟨h3, h4, h5⟩, h6⟩ := h
  refine ⟨Prod.ext ?_ h1', Prod.ext ?_ ?_, ?_⟩
  · rw [← h3, ← h4]; exact (List.take_append_drop _ _).symm
  · rw [← h3]; exact h5
  · rw [← h3]; exact h6
  · rw [← h4, List.length_drop]; omega
/-- What is decoded is encoded as it was. -/
theorem dec_enc {ks : List Ky} {l s : List Int} (h : decE ks s = (l, 0)) : l.length = 15 ∧ encE ks l = (s, 0) ∧ verW s = (l.getD 14 0, 0) := by
  obtain ⟨b, t, q, k, h1, h2, h3, h4, rfl⟩ := dec_parts h
  obtain ⟨g1, g2, g3⟩ := open_parts h2
  obtain ⟨g4, g5⟩ := fortyPut_get g1
  have hbb : ∀ x ∈ b, 0 ≤ x ∧ x < 256 := fun x hx => g5 x (List.mem_append_left _ hx)
  obtain ⟨p1, p2⟩ := tlvPut_get g2 hbb
  obtain ⟨f1, f2, f3⟩ := fields_one h3 (fun f hf x hx => hbb x (by rw [← p1]; exact val_in_put q f hf x hx))
  have hF : encF ks l = (q, 0) := by unfold encF; rw [h1]; exact f3
  have hp : (putE17 q).2 = 0 := by unfold putE17; rw [if_pos p2]
  have he : encE ks l = (s, 0) := by
    rw [encE_ok (k := k) (by rw [hF]) h4 (by rw [hF]; exact hp), hF, (tlvB_vals hp).2, p1, g4]
  exact ⟨f1, he, (enc_dec f1 he).2⟩
/-- A tag that is changed is refused. -/
theorem seal_bad {ks : List Ky} {l s b c : List Int} {i : Nat} {y : Int} (hl : l.length = 15) (h : encE ks l = (s, 0)) (hb : fortyGet s = (b, 0)) (hi : b.length - 32 ≤ i) (hi2 : i < b.length) (hy : 0 ≤ y ∧ y < 256) (hne : y ≠ b.getD i 0) (hc : c = b.set i y) : (decE ks (fortyPut c)).2 = 11 := by
  obtain ⟨q, k, h1, h2, h3, h4, h5, h6, rfl, h8⟩ := enc_parts hl h
  rw [fortyGet_put (fun x hx => by
    rcases List.mem_append.1 hx with hx | hx
    · exact h8 x hx
    · exact tagN_byte _ _ x hx)] at hb
  obtain rfl : putF q ++ tagN k.sec (66 :: putF q) = b := by simpa using hb
  have hT := tagN_len k.sec (66 :: putF q)
  have hTb := tagN_byte k.sec (66 :: putF q)
  rw [List.length_append, hT] at hi hi2
  generalize hTG : tagN k.sec (66 :: putF q) = TG at *
  have hs : (putF q ++ TG).set i y = putF q ++ TG.set (i - (putF q).length) y := by
    rw [List.set_append_right _ _ (by omega)]
  rw [hc, hs]
  have hbad : (TG.set (i - (putF q).length) y == TG) = false := by
    rw [beq_eq_false_iff_ne]
    intro e
    have e2 : (TG.set (i - (putF q).length) y).getD (i - (putF q).length) 0 = TG.getD (i - (putF q).length) 0 := by rw [e]
    rw [getD_set_eq (by omega)] at e2
    rw [List.getD_eq_getElem?_getD, List.getElem?_append_right (by omega), ← List.getD_eq_getElem?_getD] at hne
    exact hne e2
  have ho := open_put (t := TG.set (i - (putF q).length) y) h8 (fun x hx => by
    rcases List.mem_or_eq_of_mem_set hx with hx | rfl
    · exact hTb x hx
    · exact hy) (by simpa using hT) (tlvGet_put h4)
  rw [decE_open h1 ho]
  unfold decF
  rw [if_neg (by rw [h5]; simp), h5]
  simp only
  rw [h6]
  simp only
  rw [hTG, if_neg (by rw [hbad]; simp)]
end Go.Proofs.Ytiogogbkgekkdaa

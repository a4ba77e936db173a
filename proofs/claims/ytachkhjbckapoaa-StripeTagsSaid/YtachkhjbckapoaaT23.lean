/- Layers 11 and 14, plain: what a track says; a track turned round. Layers 10 and 11: Of and Unpack. Layer 11: the reader's next character. No condition. -/
import Derived.Test.YtachkhjbckapoaaT22
namespace Go.Proofs.Ytachkhjbckapoaa
open Go.RowKit
set_option linter.unusedVariables false
set_option maxRecDepth 100000
set_option linter.unusedSimpArgs false

def byteBits (x : Int) : List Bool := [decide (x / 128 % 2 = 1), decide (x / 64 % 2 = 1), decide (x / 32 % 2 = 1), decide (x / 16 % 2 = 1), decide (x / 8 % 2 = 1), decide (x / 4 % 2 = 1), decide (x / 2 % 2 = 1), decide (x % 2 = 1)]
def unpackB (b : List Int) : List Bool := b.flatMap byteBits
def of5 (a b c d e : Bool) : Int := bI a + 2 * bI b + 4 * bI c + 8 * bI d + 16 * bI e
/-- Behind the end: the check value. -/
def tkEnd (out : List Int) : List Bool → (List Int × Nat) × Int
  | a :: b :: c :: d :: e :: t => if (chV (of5 a b c d e)).2 ≠ 0 then (([], 0), (chV (of5 a b c d e)).2) else if (chV (of5 a b c d e)).1 ≠ xorL 0 (tvals out) then (([], 0), 6) else if 77 < out.length then (([], 0), 21) else ((out, t.length), 0)
  | _ => (([], 0), 5)
/-- The digits: what they are, and how many bits are left. -/
def tkGo : List Bool → List Int → (List Int × Nat) × Int
  | a :: b :: c :: d :: e :: t, out => if (chV (of5 a b c d e)).2 ≠ 0 then (([], 0), (chV (of5 a b c d e)).2) else if (chV (of5 a b c d e)).1 = 15 then tkEnd out t else if 9 < (chV (of5 a b c d e)).1 then (([], 0), 7) else tkGo t (out ++ [(chV (of5 a b c d e)).1])
  | _, _ => (([], 0), 5)
def tkRd : List Bool → (List Int × Nat) × Int
  | a :: b :: c :: d :: e :: t => if of5 a b c d e ≠ 11 then (([], 0), 4) else tkGo t []
  | _ => (([], 0), 5)
def trackGet (b : List Int) : List Int × Int := if b.length < 2 ∨ 50 < b.length then ([], 14) else
  if (tkRd (unpackB b)).2 ≠ 0 then ([], (tkRd (unpackB b)).2) else
  if packB ((unpackB b).take (8 * b.length - (tkRd (unpackB b)).1.2)) ≠ b then ([], 14) else ((tkRd (unpackB b)).1.1, 0)
def turnB (b : List Int) : List Int := packB (unpackB b).reverse
def swipeRd (b : List Int) : List Int × Bool × Int := if (trackGet b).2 = 0 then ((trackGet b).1, false, 0) else if (trackGet (turnB b)).2 = 0 then ((trackGet (turnB b)).1, true, 0) else ([], false, (trackGet b).2)

theorem five_in : ∀ v : Fin 16, chV (chr ((v.val : Nat) : Int)) = (((v.val : Nat) : Int), 0) ∧ ∃ a b c d e, vbits ((v.val : Nat) : Int) = [a, b, c, d, e] ∧ of5 a b c d e = chr ((v.val : Nat) : Int) := by
  intro v
  refine ⟨by revert v; decide +kernel, _, _, _, _, _, rfl, by revert v; decide +kernel⟩
theorem vbits_five {v : Int} (h0 : 0 ≤ v) (h1 : v ≤ 15) : ∃ a b c d e, vbits v = [a, b, c, d, e] ∧ of5 a b c d e = chr v ∧ chV (of5 a b c d e) = (v, 0) := by
  obtain ⟨n, rfl⟩ := Int.eq_ofNat_of_zero_le h0
  obtain ⟨h, a, b, c, d, e, hv, ho⟩ := five_in ⟨n, by omega⟩
  exact ⟨a, b, c, d, e, hv, ho, by rw [ho]; exact h⟩
theorem five_of : ∀ a b c d e : Bool, (chV (of5 a b c d e)).2 = 0 → [a, b, c, d, e] = vbits (chV (of5 a b c d e)).1 ∧ 0 ≤ (chV (of5 a b c d e)).1 ∧ (chV (of5 a b c d e)).1 ≤ 15 := by decide +kernel
theorem of5_31 : ∀ a b c d e : Bool, 0 ≤ of5 a b c d e ∧ of5 a b c d e ≤ 31 := by decide +kernel
theorem five_eleven : ∀ a b c d e : Bool, of5 a b c d e = 11 → [a, b, c, d, e] = vbits 11 := by decide +kernel
theorem tflat_append (l m : List Int) : tflat (l ++ m) = tflat l ++ tflat m := by simp [tflat]
theorem tflat_cons (v : Int) (l : List Int) : tflat (v :: l) = vbits v ++ tflat l := by simp [tflat]
theorem tkGo_cons (a b c d e : Bool) (t : List Bool) (out : List Int) : tkGo (a :: b :: c :: d :: e :: t) out = if (chV (of5 a b c d e)).2 ≠ 0 then (([], 0), (chV (of5 a b c d e)).2) else if (chV (of5 a b c d e)).1 = 15 then tkEnd out t else if 9 < (chV (of5 a b c d e)).1 then (([], 0), 7) else tkGo t (out ++ [(chV (of5 a b c d e)).1]) := by rw [tkGo]
theorem tkEnd_cons (a b c d e : Bool) (t : List Bool) (out : List Int) : tkEnd out (a :: b :: c :: d :: e :: t) = if (chV (of5 a b c d e)).2 ≠ 0 then (([], 0), (chV (of5 a b c d e)).2) else if (chV (of5 a b c d e)).1 ≠ xorL 0 (tvals out) then (([], 0), 6) else if 77 < out.length then (([], 0), 21) else ((out, t.length), 0) := by rw [tkEnd]
theorem tkEnd_put (out : List Int) (z : List Bool) (hs : 0 ≤ xorL 0 (tvals out) ∧ xorL 0 (tvals out) ≤ 15) (hl : out.length ≤ 77) : tkEnd out (vbits (xorL 0 (tvals out)) ++ z) = ((out, z.length), 0) := by
  obtain ⟨a, b, c, d, e, hv, _, ho⟩ := vbits_five hs.1 hs.2
  rw [hv]
  show tkEnd out (a :: b :: c :: d :: e :: z) = _
  rw [tkEnd_cons, ho, if_neg (by simp), if_neg (by simp), if_neg (by omega)]
theorem tkGo_put : ∀ (d out : List Int) (z : List Bool), (∀ x ∈ d, 0 ≤ x ∧ x ≤ 9) → (0 ≤ xorL 0 (tvals (out ++ d)) ∧ xorL 0 (tvals (out ++ d)) ≤ 15) → (out ++ d).length ≤ 77 →
    tkGo (tflat d ++ (vbits 15 ++ (vbits (xorL 0 (tvals (out ++ d))) ++ z))) out = ((out ++ d, z.length), 0)
  | [], out, z, _, hs, hl => by
    obtain ⟨a, b, c, d, e, hv, _, ho⟩ := vbits_five (v := 15) (by decide) (by decide)
    rw [List.append_nil] at hs hl ⊢
    rw [hv]
    show tkGo (a :: b :: c :: d :: e :: _) out = _
    rw [tkGo_cons, ho, if_neg (by simp), if_pos rfl]
    exact tkEnd_put out z hs hl
  | x :: d, out, z, hd, hs, hl => by
    have hx := hd x (by simp)
    obtain ⟨a, b, c, f, e, hv, _, ho⟩ := vbits_five (v := x) hx.1 (by omega)
    rw [tflat_cons, hv]
    show tkGo (a :: b :: c :: f :: e :: _) out = _
    have e1 : out ++ x :: d = (out ++ [x]) ++ d := by simp
    rw [tkGo_cons, ho, if_neg (by simp), if_neg (by show ¬ x = 15; omega), if_neg (by show ¬ 9 < x; omega), e1]
    exact tkGo_put d (out ++ [x]) z (fun y hy => hd y (by simp [hy])) (by rw [← e1]; exact hs) (by rw [← e1]; exact hl)
theorem tkEnd_ok {out o : List Int} {l : List Bool} {n : Nat} (h : tkEnd out l = ((o, n), 0)) : o = out ∧ out.length ≤ 77 ∧ ∃ z, l = vbits (xorL 0 (tvals out)) ++ z ∧ z.length = n := by
  unfold tkEnd at h
  split at h
  · rename_i a b c d e t
    by_cases h1 : (chV (of5 a b c d e)).2 ≠ 0
    · rw [if_pos h1] at h
      exact absurd (Prod.ext_iff.1 h).2 h1
    · rw [if_neg h1] at h
      by_cases h2 : (chV (of5 a b c d e)).1 ≠ xorL 0 (tvals out)
      · rw [if_pos h2] at h
        exact absurd (Prod.ext_iff.1 h).2 (by simp)
      · rw [if_neg h2] at h
        by_cases h3 : 77 < out.length
        · rw [if_pos h3] at h
          exact absurd (Prod.ext_iff.1 h).2 (by simp)
        · rw [if_neg h3] at h
          have h4 := (Prod.ext_iff.1 h).1
          have hv := five_of a b c d e (by simpa using h1)
          rw [show (chV (of5 a b c d e)).1 = xorL 0 (tvals out) by simpa using h2] at hv
          exact ⟨(congrArg Prod.fst h4).symm, by omega, t, by rw [← hv.1]; rfl, congrArg Prod.snd h4⟩
  · exact absurd (Prod.ext_iff.1 h).2 (by simp)
theorem tkGo_ok : ∀ (k : Nat) (l : List Bool) (out o : List Int) (n : Nat), l.length < k → tkGo l out = ((o, n), 0) → ∃ d z, o = out ++ d ∧ (∀ x ∈ d, 0 ≤ x ∧ x ≤ 9) ∧ l = tflat d ++ (vbits 15 ++ (vbits (xorL 0 (tvals o)) ++ z)) ∧ z.length = n ∧ o.length ≤ 77
  | 0, l, out, o, n, hk, h => absurd hk (by omega)
  | k + 1, l, out, o, n, hk, h => by
    match l, hk, h with
    | a :: b :: c :: d :: e :: t, hk, h =>
      rw [tkGo_cons] at h
      by_cases h1 : (chV (of5 a b c d e)).2 ≠ 0
      · rw [if_pos h1] at h
        exact absurd (Prod.ext_iff.1 h).2 h1
      · rw [if_neg h1] at h
        have hv := five_of a b c d e (by simpa using h1)
        by_cases h2 : (chV (of5 a b c d e)).1 = 15
        · rw [if_pos h2] at h
          obtain ⟨rfl, hl, z, rfl, hz⟩ := tkEnd_ok h
          refine ⟨[], z, by simp, by simp, ?_, hz, hl⟩
          rw [h2] at hv
          rw [← hv.1]
          rfl
        · rw [if_neg h2] at h
          by_cases h3 : 9 < (chV (of5 a b c d e)).1
          · rw [if_pos h3] at h
            exact absurd (Prod.ext_iff.1 h).2 (by simp)
          · rw [if_neg h3] at h
            obtain ⟨q, z, rfl, hq, rfl, hz, hl⟩ := tkGo_ok k t _ o n (by simp at hk; omega) h
            refine ⟨(chV (of5 a b c d e)).1 :: q, z, by simp, ?_, ?_, hz, hl⟩
            · intro x hx
              rcases List.mem_cons.1 hx with rfl | hx
              · exact ⟨hv.2.1, by omega⟩
              · exact hq x hx
            · rw [tflat_cons, ← hv.1]
              rfl
    | [], hk, h => exact absurd (Prod.ext_iff.1 h).2 (by simp [tkGo])
    | [_], hk, h => exact absurd (Prod.ext_iff.1 h).2 (by simp [tkGo])
    | [_, _], hk, h => exact absurd (Prod.ext_iff.1 h).2 (by simp [tkGo])
    | [_, _, _], hk, h => exact absurd (Prod.ext_iff.1 h).2 (by simp [tkGo])
    | [_, _, _, _], hk, h => exact absurd (Prod.ext_iff.1 h).2 (by simp [tkGo])

-- bytes and bits
theorem byteBits_len (x : Int) : (byteBits x).length = 8 := rfl
theorem unpackB_len (b : List Int) : (unpackB b).length = 8 * b.length := by
  induction b with
  | nil => rfl
  | cons x t ih => simp only [unpackB, List.flatMap_cons, List.length_append, byteBits_len, List.length_cons] at ih ⊢; omega
theorem unpackB_cons (x : Int) (b : List Int) : unpackB (x :: b) = byteBits x ++ unpackB b := by simp [unpackB]
theorem unpackB_at : ∀ (b : List Int) (i : Nat), i < 8 * b.length → (unpackB b).getD i false = (byteBits (b.getD (i / 8) 0)).getD (i % 8) false
  | [], i, h => absurd h (by simp)
  | x :: b, i, h => by
    rw [unpackB_cons]
    by_cases h8 : i < 8
    · rw [show i / 8 = 0 by omega, show i % 8 = i by omega, List.getD_eq_getElem?_getD, List.getElem?_append_left (by rw [byteBits_len]; exact h8), ← List.getD_eq_getElem?_getD]
      rfl
    · rw [List.getD_eq_getElem?_getD, List.getElem?_append_right (by rw [byteBits_len]; omega), ← List.getD_eq_getElem?_getD, byteBits_len, unpackB_at b (i - 8) (by simp at h; omega), show (i - 8) % 8 = i % 8 by omega, show i / 8 = (i - 8) / 8 + 1 by omega]
      rfl
theorem byteBits_sum : ∀ a b c d e f g h : Bool, byteBits (128 * bI a + 64 * bI b + 32 * bI c + 16 * bI d + 8 * bI e + 4 * bI f + 2 * bI g + bI h) = [a, b, c, d, e, f, g, h] := by decide +kernel
theorem byteBits_at (l : List Bool) (n : Nat) : byteBits (byteAt l n) = [l.getD n false, l.getD (n + 1) false, l.getD (n + 2) false, l.getD (n + 3) false, l.getD (n + 4) false, l.getD (n + 5) false, l.getD (n + 6) false, l.getD (n + 7) false] := byteBits_sum _ _ _ _ _ _ _ _
theorem eight_at (l : List Bool) (n r : Nat) (hr : r < 8) : (byteBits (byteAt l n)).getD r false = l.getD (n + r) false := by
  rw [byteBits_at]
  rcases (show r = 0 ∨ r = 1 ∨ r = 2 ∨ r = 3 ∨ r = 4 ∨ r = 5 ∨ r = 6 ∨ r = 7 by omega) with rfl | rfl | rfl | rfl | rfl | rfl | rfl | rfl <;> rfl
theorem ext_getD {l m : List Bool} (hl : l.length = m.length) (h : ∀ i, i < l.length → l.getD i false = m.getD i false) : l = m := by
  refine List.ext_getElem hl fun i h1 h2 => ?_
  have := h i h1
  simpa [List.getD_eq_getElem?_getD, h1, h2] using this
theorem ext_getI {l m : List Int} (hl : l.length = m.length) (h : ∀ i, i < l.length → l.getD i 0 = m.getD i 0) : l = m := by
  refine List.ext_getElem hl fun i h1 h2 => ?_
  have := h i h1
  simpa [List.getD_eq_getElem?_getD, h1, h2] using this
theorem unpack_pack {m : Nat} {l : List Bool} (h : l.length ≤ 8 * m) : unpackB (packN m l) = l ++ List.replicate (8 * m - l.length) false := by
  refine ext_getD (by rw [unpackB_len, packN_len, List.length_append, List.length_replicate]; omega) fun i hi => ?_
  rw [unpackB_len, packN_len] at hi
  rw [unpackB_at _ _ (by rw [packN_len]; exact hi), packN_at _ (by omega), eight_at _ _ _ (by omega), show 8 * (i / 8) + i % 8 = i by omega]
  by_cases hl : i < l.length
  · rw [List.getD_eq_getElem?_getD, List.getD_eq_getElem?_getD, List.getElem?_append_left hl]
  · rw [List.getD_eq_getElem?_getD, List.getD_eq_getElem?_getD, List.getElem?_append_right (by omega), List.getElem?_eq_none (by omega)]
    rw [List.getElem?_replicate]
    split <;> rfl
theorem byte_back : ∀ n : Fin 256, byteAt (byteBits ((n.val : Nat) : Int)) 0 = ((n.val : Nat) : Int) := by decide +kernel
theorem byteAt_of {l m : List Bool} {n k : Nat} (h : ∀ i, i < 8 → l.getD (n + i) false = m.getD (k + i) false) : byteAt l n = byteAt m k := by
  unfold byteAt
  rw [show l.getD n false = m.getD k false from h 0 (by omega), h 1 (by omega), h 2 (by omega), h 3 (by omega), h 4 (by omega), h 5 (by omega), h 6 (by omega), h 7 (by omega)]
theorem pack_unpack {b : List Int} (hb : ∀ x ∈ b, 0 ≤ x ∧ x < 256) : packB (unpackB b) = b := by
  have hm : ((unpackB b).length + 7) / 8 = b.length := by rw [unpackB_len]; omega
  unfold packB
  rw [hm]
  refine ext_getI (packN_len _ _) fun i hi => ?_
  rw [packN_len] at hi
  rw [packN_at _ hi]
  have hx := hb (b.getD i 0) (getD_mem hi)
  obtain ⟨n, hn⟩ := Int.eq_ofNat_of_zero_le hx.1
  have e := byte_back ⟨n, by omega⟩
  simp only at e
  rw [hn, ← Int.natCast_inj.1 (rfl : ((n : Nat) : Int) = n)] 
  refine Eq.trans (byteAt_of fun r hr => ?_) e
  rw [unpackB_at _ _ (by omega), show (8 * i + r) / 8 = i by omega, show (8 * i + r) % 8 = r by omega, hn, Nat.zero_add]
theorem unpack_turn (b : List Int) : unpackB (turnB b) = (unpackB b).reverse := by
  have hm : ((unpackB b).reverse.length + 7) / 8 = b.length := by rw [List.length_reverse, unpackB_len]; omega
  unfold turnB packB
  rw [hm, unpack_pack (by rw [List.length_reverse, unpackB_len]; omega), List.length_reverse, unpackB_len, Nat.sub_self]
  simp
theorem turn_len (b : List Int) : (turnB b).length = b.length := by
  unfold turnB packB
  rw [packN_len, List.length_reverse, unpackB_len]; omega
theorem turn_byte (b : List Int) : ∀ x ∈ turnB b, 0 ≤ x ∧ x < 256 := packN_byte _ _
theorem turn_turn {b : List Int} (hb : ∀ x ∈ b, 0 ≤ x ∧ x < 256) : turnB (turnB b) = b := by
  unfold turnB
  rw [show packB (unpackB b).reverse = turnB b from rfl, unpack_turn, List.reverse_reverse]
  exact pack_unpack hb

-- what was put is got; what was got is put
theorem tall_flat (d : List Int) : tflat (tall d) = vbits 11 ++ (tflat d ++ (vbits 15 ++ vbits (xorL 0 (tvals d)))) := by
  unfold tall tvals
  rw [show 11 :: d ++ [15] = [11] ++ (d ++ [15]) from rfl, tflat_append, tflat_append, tflat_append]
  simp [tflat]
theorem tvals_15 {d : List Int} (hd : ∀ x ∈ d, 0 ≤ x ∧ x ≤ 9) : 0 ≤ xorL 0 (tvals d) ∧ xorL 0 (tvals d) ≤ 15 := by
  refine xorL_15 _ 0 (by omega) fun v hv => ?_
  unfold tvals at hv
  rcases List.mem_append.1 hv with hv | hv
  · rcases List.mem_cons.1 hv with rfl | hv
    · omega
    · have := hd v hv; omega
  · obtain rfl := List.mem_singleton.1 hv; omega
theorem tkRd_cons (a b c d e : Bool) (t : List Bool) : tkRd (a :: b :: c :: d :: e :: t) = if of5 a b c d e ≠ 11 then (([], 0), 4) else tkGo t [] := by rw [tkRd]
theorem trackPut_ok {d b : List Int} (hd0 : ∀ x ∈ d, 0 ≤ x) (h : trackPut d = (b, 0)) : d.length ≤ 77 ∧ (∀ x ∈ d, 0 ≤ x ∧ x ≤ 9) ∧ b = packB (tflat (tall d)) := by
  unfold trackPut at h
  by_cases h1 : 77 < d.length
  · rw [if_pos h1] at h
    exact absurd (Prod.ext_iff.1 h).2 (by simp)
  · rw [if_neg h1] at h
    cases h2 : d.any (fun x => decide (9 < x)) with
    | true =>
      rw [h2, if_pos rfl] at h
      exact absurd (Prod.ext_iff.1 h).2 (by simp)
    | false =>
      rw [h2, if_neg (by simp)] at h
      refine ⟨by omega, fun x hx => ⟨hd0 x hx, ?_⟩, ((Prod.ext_iff.1 h).1).symm⟩
      have := List.any_eq_false.1 h2 x hx
      simpa using this
theorem trackPut_mk {d : List Int} (h1 : d.length ≤ 77) (h2 : ∀ x ∈ d, 0 ≤ x ∧ x ≤ 9) : trackPut d = (packB (tflat (tall d)), 0) := by
  unfold trackPut
  rw [if_neg (by omega), if_neg]
  intro h
  obtain ⟨x, hx, h9⟩ := List.any_eq_true.1 h
  have := h2 x hx
  simp only [decide_eq_true_eq] at h9
  omega
theorem track_back {d b : List Int} (hd0 : ∀ x ∈ d, 0 ≤ x) (h : trackPut d = (b, 0)) : trackGet b = (d, 0) := by
  obtain ⟨hl, hd, rfl⟩ := trackPut_ok hd0 h
  have hF : (tflat (tall d)).length = 5 * (d.length + 3) := by rw [tflat_len]; unfold tall tvals; simp
  have hm : (packB (tflat (tall d))).length = (5 * (d.length + 3) + 7) / 8 := by unfold packB; rw [packN_len, hF]
  have hu : unpackB (packB (tflat (tall d))) = tflat (tall d) ++ List.replicate (8 * (packB (tflat (tall d))).length - (tflat (tall d)).length) false := by
    have h := unpack_pack (m := ((tflat (tall d)).length + 7) / 8) (l := tflat (tall d)) (by omega)
    rw [hm, ← hF]
    exact h
  have hr : tkRd (unpackB (packB (tflat (tall d)))) = ((d, 8 * (packB (tflat (tall d))).length - (tflat (tall d)).length), 0) := by
    rw [hu, tall_flat]
    obtain ⟨a, b, c, f, e, hv, ho, _⟩ := vbits_five (v := 11) (by decide) (by decide)
    rw [hv]
    simp only [List.append_assoc]
    show tkRd (a :: b :: c :: f :: e :: _) = _
    rw [tkRd_cons, ho, if_neg (by decide)]
    have h := tkGo_put d [] (List.replicate (8 * (packB (tflat (tall d))).length - (tflat (tall d)).length) false) hd (by simpa using tvals_15 hd) (by simpa using hl)
    simp only [List.nil_append, List.length_replicate] at h
    rw [tall_flat, hv] at h
    exact h
  unfold trackGet
  rw [if_neg (by rw [hm]; omega), hr]
  simp only [ne_eq, not_true_eq_false, if_false]
  rw [if_neg]
  rw [hu, show 8 * (packB (tflat (tall d))).length - (8 * (packB (tflat (tall d))).length - (tflat (tall d)).length) = (tflat (tall d)).length by rw [hm, hF]; omega, List.take_left]
  simp
theorem track_one {d b : List Int} (h : trackGet b = (d, 0)) : trackPut d = (b, 0) ∧ (∀ x ∈ d, 0 ≤ x ∧ x ≤ 9) ∧ 2 ≤ b.length ∧ b.length ≤ 50 := by
  unfold trackGet at h
  by_cases h1 : b.length < 2 ∨ 50 < b.length
  · rw [if_pos h1] at h
    exact absurd (Prod.ext_iff.1 h).2 (by simp)
  · rw [if_neg h1] at h
    by_cases h2 : (tkRd (unpackB b)).2 ≠ 0
    · rw [if_pos h2] at h
      exact absurd (Prod.ext_iff.1 h).2 h2
    · rw [if_neg h2] at h
      by_cases h3 : packB ((unpackB b).take (8 * b.length - (tkRd (unpackB b)).1.2)) ≠ b
      · rw [if_pos h3] at h
        exact absurd (Prod.ext_iff.1 h).2 (by simp)
      · rw [if_neg h3] at h
        have hd := (Prod.ext_iff.1 h).1
        simp only at hd
        obtain ⟨⟨⟨o, n⟩, er⟩, hR⟩ : ∃ r, tkRd (unpackB b) = r := ⟨_, rfl⟩
        rw [hR] at h2 h3 hd
        simp only [ne_eq, Decidable.not_not] at h2 h3 hd
        subst hd h2
        have hlen := unpackB_len b
        unfold tkRd at hR
        split at hR
        · rename_i a b' c f e t hU
          by_cases h4 : of5 a b' c f e ≠ 11
          · rw [if_pos h4] at hR
            exact absurd (Prod.ext_iff.1 hR).2 (by simp)
          · rw [if_neg h4] at hR
            obtain ⟨q, z, rfl, hq, rfl, hz, hl⟩ := tkGo_ok (t.length + 1) t [] o n (by omega) hR
            have h11 := five_eleven a b' c f e (by simpa using h4)
            have hU2 : unpackB b = tflat (tall o) ++ z := by
              rw [hU, tall_flat]
              show [a, b', c, f, e] ++ _ = _
              rw [h11]
              simp
            have ht : (unpackB b).take (8 * b.length - n) = tflat (tall o) := by
              rw [hU2] at hlen ⊢
              rw [List.length_append] at hlen
              rw [show 8 * b.length - n = (tflat (tall o)).length by omega, List.take_left]
            rw [ht] at h3
            exact ⟨by rw [trackPut_mk hl hq, h3], hq, by omega, by omega⟩
        · exact absurd (Prod.ext_iff.1 hR).2 (by simp)
theorem trackGet_fail {b : List Int} (h : (trackGet b).2 ≠ 0) : (trackGet b).1 = [] := by
  unfold trackGet at h ⊢
  split
  · rfl
  · split
    · rfl
    · split
      · rfl
      · rename_i h1 h2 h3
        rw [if_neg h1, if_neg h2, if_neg h3] at h
        exact absurd rfl h
theorem trackGet_byte {b : List Int} : ∀ x ∈ (trackGet b).1, 0 ≤ x ∧ x ≤ 9 := by
  by_cases h : (trackGet b).2 = 0
  · exact (track_one (d := (trackGet b).1) (Prod.ext rfl h)).2.1
  · rw [trackGet_fail h]; simp
end Go.Proofs.Ytachkhjbckapoaa

namespace Go.Proofs.Ytachkhjbckapoaa
open Go.RowKit
set_option linter.unusedVariables false
set_option maxRecDepth 100000
set_option linter.unusedSimpArgs false

/-- Five bits' number, so far. -/
def of5k (a b c d e : Bool) : Nat → Int
  | 0 => 0
  | 1 => bI a
  | 2 => bI a + 2 * bI b
  | 3 => bI a + 2 * bI b + 4 * bI c
  | 4 => bI a + 2 * bI b + 4 * bI c + 8 * bI d
  | _ => of5 a b c d e
theorem of5k_or : ∀ a b c d e : Bool, bits .or .i64 (of5k a b c d e 0) 1 = of5k true b c d e 1 ∧ bits .or .i64 (of5k a b c d e 1) 2 = of5k a true c d e 2 ∧ bits .or .i64 (of5k a b c d e 2) 4 = of5k a b true d e 3 ∧ bits .or .i64 (of5k a b c d e 3) 8 = of5k a b c true e 4 ∧ bits .or .i64 (of5k a b c d e 4) 16 = of5k a b c d true 5 := by decide +kernel
theorem of5k_no : ∀ a b c d e : Bool, of5k a b c d e 0 = of5k false b c d e 1 ∧ of5k a b c d e 1 = of5k a false c d e 2 ∧ of5k a b c d e 2 = of5k a b false d e 3 ∧ of5k a b c d e 3 = of5k a b c false e 4 ∧ of5k a b c d e 4 = of5k a b c d false 5 := by decide +kernel
theorem idx5_0 (a b c d e : Bool) (w : World) : (Instr.index 161 (.agg #[.bool a, .bool b, .bool c, .bool d, .bool e]) (.int .i64 0)).run Try.prog w = .ok (.bool a) w := by kernel_rfl
theorem idx5_1 (a b c d e : Bool) (w : World) : (Instr.index 161 (.agg #[.bool a, .bool b, .bool c, .bool d, .bool e]) (.int .i64 1)).run Try.prog w = .ok (.bool b) w := by kernel_rfl
theorem idx5_2 (a b c d e : Bool) (w : World) : (Instr.index 161 (.agg #[.bool a, .bool b, .bool c, .bool d, .bool e]) (.int .i64 2)).run Try.prog w = .ok (.bool c) w := by kernel_rfl
theorem idx5_3 (a b c d e : Bool) (w : World) : (Instr.index 161 (.agg #[.bool a, .bool b, .bool c, .bool d, .bool e]) (.int .i64 3)).run Try.prog w = .ok (.bool d) w := by kernel_rfl
theorem idx5_4 (a b c d e : Bool) (w : World) : (Instr.index 161 (.agg #[.bool a, .bool b, .bool c, .bool d, .bool e]) (.int .i64 4)).run Try.prog w = .ok (.bool e) w := by kernel_rfl
set_option maxHeartbeats 4000000 in
theorem pof_any (a b c d e : Bool) (w : World) :
    Calls Try.prog 144 #[.agg #[.bool a, .bool b, .bool c, .bool d, .bool e]] w fun E w' => E = .returned (.int .i64 (of5 a b c d e)) ∧ Below w.heap.size w w' := by
  have hb1 := bel1 w (.cells #[.bool a, .bool b, .bool c, .bool d, .bool e] 161)
  have i0 := fun w a b c d e => idx5_0 a b c d e w
  have i1 := fun w a b c d e => idx5_1 a b c d e w
  have i2 := fun w a b c d e => idx5_2 a b c d e w
  have i3 := fun w a b c d e => idx5_3 a b c d e w
  have i4 := fun w a b c d e => idx5_4 a b c d e w
  go_enter Try.func144, Try.ntmps144
  go_wp2
  go_loop [3, 4, 5, 7] (fun n _ _ i => ∃ k : Nat, k ≤ 5 ∧ i = .int .i64 k ∧ n = .int .i64 (of5k a b c d e k)) (fun _ _ _ i => 5 - (intOf i).toNat)
  case atStart => exact ⟨0, by omega, rfl, rfl⟩
  case round =>
    obtain ⟨k, hk, rfl, rfl⟩ := hrel
    have hk5 : k = 0 ∨ k = 1 ∨ k = 2 ∨ k = 3 ∨ k = 4 ∨ k = 5 := by omega
    rcases hk5 with rfl | rfl | rfl | rfl | rfl | rfl
    · cases a with
      | true =>
        have HE := Lib.hid ((of5k_or true b c d e).1)
        generalize of5k true b c d e 0 = x at *
        go_wp2
        go_round
        case rel => exact ⟨1, by omega, by go_num, by rw [← HE.out] <;> rfl⟩
        case measure => simp [intOf]
      | false =>
        have HE := Lib.hid ((of5k_no false b c d e).1)
        generalize of5k false b c d e 0 = x at *
        go_wp2
        go_round
        case rel => exact ⟨1, by omega, by go_num, by rw [← HE.out] <;> rfl⟩
        case measure => simp [intOf]
    · cases b with
      | true =>
        have HE := Lib.hid ((of5k_or a true c d e).2.1)
        generalize of5k a true c d e 1 = x at *
        go_wp2
        go_round
        case rel => exact ⟨2, by omega, by go_num, by rw [← HE.out] <;> rfl⟩
        case measure => simp [intOf]
      | false =>
        have HE := Lib.hid ((of5k_no a false c d e).2.1)
        generalize of5k a false c d e 1 = x at *
        go_wp2
        go_round
        case rel => exact ⟨2, by omega, by go_num, by rw [← HE.out] <;> rfl⟩
        case measure => simp [intOf]
    · cases c with
      | true =>
        have HE := Lib.hid ((of5k_or a b true d e).2.2.1)
        generalize of5k a b true d e 2 = x at *
        go_wp2
        go_round
        case rel => exact ⟨3, by omega, by go_num, by rw [← HE.out] <;> rfl⟩
        case measure => simp [intOf]
      | false =>
        have HE := Lib.hid ((of5k_no a b false d e).2.2.1)
        generalize of5k a b false d e 2 = x at *
        go_wp2
        go_round
        case rel => exact ⟨3, by omega, by go_num, by rw [← HE.out] <;> rfl⟩
        case measure => simp [intOf]
    · cases d with
      | true =>
        have HE := Lib.hid ((of5k_or a b c true e).2.2.2.1)
        generalize of5k a b c true e 3 = x at *
        go_wp2
        go_round
        case rel => exact ⟨4, by omega, by go_num, by rw [← HE.out] <;> rfl⟩
        case measure => simp [intOf]
      | false =>
        have HE := Lib.hid ((of5k_no a b c false e).2.2.2.1)
        generalize of5k a b c false e 3 = x at *
        go_wp2
        go_round
        case rel => exact ⟨4, by omega, by go_num, by rw [← HE.out] <;> rfl⟩
        case measure => simp [intOf]
    · cases e with
      | true =>
        have HE := Lib.hid ((of5k_or a b c d true).2.2.2.2)
        generalize of5k a b c d true 4 = x at *
        go_wp2
        go_round
        case rel => exact ⟨5, by omega, by go_num, by rw [← HE.out] <;> rfl⟩
        case measure => simp [intOf]
      | false =>
        have HE := Lib.hid ((of5k_no a b c d false).2.2.2.2)
        generalize of5k a b c d false 4 = x at *
        go_wp2
        go_round
        case rel => exact ⟨5, by omega, by go_num, by rw [← HE.out] <;> rfl⟩
        case measure => simp [intOf]
    · go_wp2
      go_ret
      exact ⟨rfl, hb1⟩

/-- The bits that are laid, behind k rounds. -/
def upK (l : List Int) (k : Nat) : List Bool := (unpackB l).take k ++ List.replicate (8 * l.length - k) false
theorem upK_len (l : List Int) {k : Nat} (h : k ≤ 8 * l.length) : (upK l k).length = 8 * l.length := by
  unfold upK
  rw [List.length_append, List.length_take, unpackB_len, List.length_replicate]; omega
theorem upK_set (l : List Int) {k : Nat} (h : k < 8 * l.length) : upK l (k + 1) = (upK l k).set k ((unpackB l).getD k false) := by
  have hl := unpackB_len l
  unfold upK
  rw [List.take_succ_eq_append_getElem (by omega), List.set_append_right _ _ (by rw [List.length_take]; omega), List.length_take, show k - min k (unpackB l).length = 0 by omega]
  obtain ⟨m, hm⟩ : ∃ m, 8 * l.length - k = m + 1 := ⟨8 * l.length - k - 1, by omega⟩
  rw [hm, List.replicate_succ, List.set_cons_zero, show 8 * l.length - (k + 1) = m by omega, List.getD_eq_getElem?_getD, List.getElem?_eq_getElem (by omega), List.append_assoc]
  rfl
theorem upK_end (l : List Int) : upK l (8 * l.length) = unpackB l := by
  unfold upK
  rw [Nat.sub_self, List.take_of_length_le (by rw [unpackB_len]; omega)]; simp
theorem blv_set (l : List Bool) (k : Nat) (b : Bool) : (blv l).set k (.bool b) = blv (l.set k b) := by simp [blv, List.map_set]
theorem bit_fin : ∀ (x : Fin 256) (r : Fin 8), (bits .and .u8 (((x.val : Nat) : Int) * 2 ^ r.val % 256) 128 != 0) = (byteBits ((x.val : Nat) : Int)).getD r.val false := by decide +kernel
theorem bit_at {x : Int} {r : Nat} (h0 : 0 ≤ x) (h1 : x < 256) (hr : r < 8) : (bits .and .u8 (x * 2 ^ r % 256) 128 != 0) = (byteBits x).getD r false := by
  obtain ⟨n, rfl⟩ := Int.eq_ofNat_of_zero_le h0
  exact bit_fin ⟨n, by omega⟩ ⟨r, hr⟩
set_option maxHeartbeats 4000000 in
theorem unpack_any (A : Option Addr) (c : Nat) (l : List Int) (w : World) (hr : RdI w .u8 A l) (hl : l.length ≤ 17592186044416) (hb : ∀ x ∈ l, 0 ≤ x ∧ x < 256) :
    Calls Try.prog 67 #[.slice A l.length c] w fun e w' => e = .returned (.slice (some ⟨w.heap.size, 0, none⟩) (8 * l.length) (8 * l.length)) ∧ w'.ownsRow w.heap.size 4 1 (.slice (some ⟨w.heap.size, 0, none⟩) (8 * l.length) (8 * l.length)) (8 * l.length) (blv (unpackB l)) ∧ Below w.heap.size w w' := by
  obtain ⟨i0, hi, hz0, hz1, hz2⟩ := info_parts infoBool
  obtain ⟨m, hm⟩ : ∃ m, 8 * l.length = m := ⟨_, rfl⟩
  rw [hm]
  have d2 : 8 * (l.length : Int) = (m : Int) := by omega
  have HM := Lib.hid hm
  clear hm
  go_enter Try.func67, Try.ntmps67
  go_wp2_with (first
    | (at_make; go_loud (refine wpList_make_full _ rfl _ _ 77 rfl w.heap.size 4 i0 (.bool false) 1 Try.underlying77 hi hz0 hz1 .i64 .i64 _ _ m rfl rfl rfl rfl (by rw [hz2]; have := HM.out; omega) (by unfold maxLen; have := HM.out; omega) (Nat.le_refl _) ?_; intro w1 hown hg)))
  have hown2 : w1.ownsRow w.heap.size 4 1 (.slice (some ⟨w.heap.size, 0, none⟩) m m) m (blv (upK l 0)) := by
    have e : (madeCells (Value.bool false).cells (m * 1)).toList = blv (upK l 0) := by
      show (madeCells #[Value.bool false] (m * 1)).toList = _
      rw [toList_madeCells_one, Nat.mul_one, ← HM.out]; simp [blv, upK]
    rw [← e]; exact hown
  clear hown
  go_loopw [4, 11] (fun _ i wr => ∃ k : Nat, k ≤ m ∧ i = .int .i64 k ∧ wr.ownsRow w.heap.size 4 1 (.slice (some ⟨w.heap.size, 0, none⟩) m m) m (blv (upK l k)) ∧ Below w.heap.size w wr) (fun _ i _ => m - (intOf i).toNat)
  case atStart => exact ⟨0, Nat.zero_le _, rfl, hown2, bG (bR _) hg (fun k h => by cases h)⟩
  case round =>
    obtain ⟨k, hk, rfl, ho, hbl⟩ := hrel
    by_cases hlt : k < m
    · have hkl : k / 8 < l.length := by have := HM.out; omega
      obtain ⟨ad, rfl, q0⟩ := (hr.below hbl).at_ hkl
      have hx := hb _ (getD_mem hkl)
      have HN := Lib.hid (upK_set l (show k < 8 * l.length by rw [HM.out]; exact hlt))
      have HV := Lib.hid ((unpackB_at l k (by rw [HM.out]; exact hlt)).trans (bit_at hx.1 hx.2 (show k % 8 < 8 by omega)).symm)
      have hcell := ho.cellAt k (by rw [Nat.mul_one]; exact hlt)
      rw [blv_at (by rw [upK_len l (by rw [HM.out]; exact hk), HM.out]; exact hlt)] at hcell
      have hfr := ho.frozenAt k
      have HO := Lib.hid (ho.stored k (.bool ((unpackB l).getD k false)))
      obtain ⟨x, hxx⟩ : ∃ x, l.getD (k / 8) 0 = x := ⟨_, rfl⟩
      rw [hxx] at hx HV q0
      clear hxx
      obtain ⟨q, hq⟩ : ∃ q, k / 8 = q := ⟨_, rfl⟩
      obtain ⟨r, hr8⟩ : ∃ r, k % 8 = r := ⟨_, rfl⟩
      rw [hq] at q0 hkl
      rw [hr8] at HV
      have e1 : (k : Int) / 8 = (q : Int) := by omega
      have e2 : (k : Int) % 8 = (r : Int) := by omega
      have e3 : IntKind.i64.wrap (q : Int) = (q : Int) := by rw [IntKind.wrap_i64]; have := HM.out; omega
      have e4 : IntKind.i64.wrap (r : Int) = (r : Int) := by rw [IntKind.wrap_i64]; omega
      have e5 : (k : Int).tmod 8 = (r : Int) := (tmod8 k).trans (by rw [hr8])
      have k8 : (q : Int) < (l.length : Int) := by omega
      have k8' : (0 : Int) ≤ (q : Int) := by omega
      have r8 : (r : Int) < 8 := by omega
      clear hq hr8
      go_wp2
      go_roundw
      case rel => exact ⟨k + 1, by omega, by go_num, by have h := HO.out.1; rw [HV.out, blv_set] at h; rw [HN.out, HV.out]; exact h, bS hbl (Nat.le_refl _)⟩
      case measure => simp [intOf]; omega
    · obtain rfl : k = m := by omega
      rw [← HM.out, upK_end, HM.out] at ho
      have HO := Lib.hid ho
      clear ho hown2 hg
      go_wp2
      go_ret
      exact ⟨rfl, HO.out, hbl⟩
end Go.Proofs.Ytachkhjbckapoaa

namespace Go.Proofs.Ytachkhjbckapoaa
open Go.RowKit
set_option linter.unusedVariables false
set_option maxRecDepth 100000
set_option linter.unusedSimpArgs false

/-- The reader's block. -/
def RdrAt (w : World) (g U n at_ : Nat) : Prop := w.heap[g]? = some (.cells #[.slice (some ⟨U, 0, none⟩) n n, .int .i64 (at_ : Int)] 125 (0, 0))
/-- The next character's value. -/
def vrd : List Bool → Int × Int
  | a :: b :: c :: d :: e :: _ => chV (of5 a b c d e)
  | _ => (0, 5)
theorem vrd_short {l : List Bool} (h : l.length < 5) : vrd l = (0, 5) := by
  match l, h with
  | [], _ => rfl
  | [_], _ => rfl
  | [_, _], _ => rfl
  | [_, _, _], _ => rfl
  | [_, _, _, _], _ => rfl
  | _ :: _ :: _ :: _ :: _ :: _, h => exact absurd h (by simp)
def ValRet (g U n : Nat) (q : List Bool) (at_ : Nat) (w : World) (e : Ending) (w' : World) : Prop :=
  w.grownBy w' (some g) ∧ ((vrd q).2 = 0 → e = .returned (.int .i64 (vrd q).1) ∧ RdrAt w' g U n (at_ + 5)) ∧ ((vrd q).2 ≠ 0 → e = .panicked [{ v := .iface 31 (.int .i64 (vrd q).2), recovered := false }])
theorem RdrAt.cells {w : World} {g U n at_ : Nat} (h : RdrAt w g U n at_) : w.cell? ⟨g, 0, none⟩ = some (.slice (some ⟨U, 0, none⟩) n n) ∧ w.cell? ⟨g, 1, none⟩ = some (.int .i64 (at_ : Int)) := ⟨cell_of_row _ _ 0 _ _ _ h, cell_of_row _ _ 1 _ _ _ h⟩
theorem grown_below {w w' : World} (h : Below w.heap.size w w') (row : Option Nat) : w.grownBy w' row := ⟨h.os, h.tape, h.output, h.size, fun b hb _ => h.block b hb⟩
theorem value_end (g U n at_ : Nat) (L : List Bool) (w : World) (hr : RdrAt w g U n at_) (hL : RdB w (some ⟨U, 0, none⟩) L) (hn : L.length = n) (hn9 : n ≤ 9000) (ha : at_ ≤ n) (hs : n < at_ + 5) :
    Calls Try.prog 145 #[.pointer (some ⟨g, 0, none⟩)] w (ValRet g U n (L.drop at_) at_ w) := by
  have E := Lib.hid (vrd_short (l := L.drop at_) (by rw [List.length_drop]; omega))
  obtain ⟨c0, c1⟩ := hr.cells
  have e1 : IntKind.i64.wrap ((at_ : Int) + 5) = (at_ : Int) + 5 := IntWalk.i64_in _ (by omega)
  have d1 : decide ((n : Int) < (at_ : Int) + 5) = true := decide_eq_true (by omega)
  clear hn
  go_enter Try.func145, Try.ntmps145
  go_wp2
  go_quiet (fail)
  go_wp2
  refine ⟨rfl, grown_below (by repeat (first | exact bR _ | apply bN | apply bD)) _, fun h => ?_, fun _ => ?_⟩
  · rw [E.out] at h; exact absurd h (by decide)
  · rw [E.out]
def VR (g U n at_ : Nat) (v z : Int) (w : World) (e : Ending) (w' : World) : Prop :=
  w.grownBy w' (some g) ∧ (z = 0 → e = .returned (.int .i64 v) ∧ RdrAt w' g U n (at_ + 5)) ∧ (z ≠ 0 → e = .panicked [{ v := .iface 31 (.int .i64 z), recovered := false }])
def Rd7 (w : World) (g U n at_ : Nat) (a b c d f : Bool) : Prop := w.cell? ⟨g, 0, none⟩ = some (.slice (some ⟨U, 0, none⟩) n n) ∧ w.cell? ⟨g, 1, none⟩ = some (.int .i64 (at_ : Int)) ∧ w.cell? ⟨U, at_, none⟩ = some (.bool a) ∧ w.cell? ⟨U, at_ + 1, none⟩ = some (.bool b) ∧ w.cell? ⟨U, at_ + 2, none⟩ = some (.bool c) ∧ w.cell? ⟨U, at_ + 3, none⟩ = some (.bool d) ∧ w.cell? ⟨U, at_ + 4, none⟩ = some (.bool f)
theorem Rd7.below {w w' : World} {g U n at_ : Nat} {a b c d f : Bool} (h : Rd7 w g U n at_ a b c d f) (hb : Below w.heap.size w w') : Rd7 w' g U n at_ a b c d f := ⟨keep_cell hb h.1, keep_cell hb h.2.1, keep_cell hb h.2.2.1, keep_cell hb h.2.2.2.1, keep_cell hb h.2.2.2.2.1, keep_cell hb h.2.2.2.2.2.1, keep_cell hb h.2.2.2.2.2.2⟩
theorem arrayAt5 (p : Addr) (n c : Nat) (w : World) (hn : n = 5) : (Instr.arrayAt 161 (.slice (some p) n c)).run Try.prog w = .ok (.pointer (some p)) w := by subst hn; kernel_rfl
theorem grown_set {w W : World} {g j : Nat} {v : Value} (h : w.grownBy W (some g)) : w.grownBy (W.setCell ⟨g, j, none⟩ v) (some g) :=
  have k : Below 0 W (W.setCell ⟨g, j, none⟩ v) := (Below.refl 0 W).setCell (Nat.zero_le _) v
  ⟨k.os.trans h.os, k.tape.trans h.tape, k.output.trans h.output, Nat.le_trans h.size k.size, fun b hb hne => (Below.heap_setCell W ⟨g, j, none⟩ v b (fun e => hne (by show some b = some g; rw [e]))).trans (h.block b hb hne)⟩
theorem value_some (g U n at_ : Nat) (L : List Bool) (w : World) (hr : RdrAt w g U n at_) (hL : RdB w (some ⟨U, 0, none⟩) L) (hn : L.length = n) (hn9 : n ≤ 9000) (hs : at_ + 5 ≤ n) :
    Calls Try.prog 145 #[.pointer (some ⟨g, 0, none⟩)] w (ValRet g U n (L.drop at_) at_ w) := by
  obtain ⟨a, b, c, d, f, t, hq⟩ : ∃ a b c d f t, L.drop at_ = a :: b :: c :: d :: f :: t := by
    have hl : (L.drop at_).length = n - at_ := by rw [List.length_drop, hn]
    match hm : L.drop at_, hl with
    | a :: b :: c :: d :: f :: t, _ => exact ⟨a, b, c, d, f, t, rfl⟩
    | [], h => exact absurd h (by simp; omega)
    | [_], h => exact absurd h (by simp; omega)
    | [_, _], h => exact absurd h (by simp; omega)
    | [_, _, _], h => exact absurd h (by simp; omega)
    | [_, _, _, _], h => exact absurd h (by simp; omega)
  have hAt : ∀ j v, (L.drop at_)[j]? = some v → w.cell? ⟨U, at_ + j, none⟩ = some (.bool v) := by
    intro j v hj
    rw [List.getElem?_drop] at hj
    have hlt : at_ + j < L.length := by
      rcases Nat.lt_or_ge (at_ + j) L.length with h | h
      · exact h
      · rw [List.getElem?_eq_none h] at hj; exact absurd hj (by simp)
    obtain ⟨ad, ha, hc⟩ := hL.at_ hlt
    obtain rfl := Option.some.inj ha
    have e : (⟨U, 0, none⟩ : Addr).add (at_ + j) = ⟨U, at_ + j, none⟩ := by unfold Addr.add; by_cases h : at_ + j = 0 <;> simp only [h, if_pos, if_neg, not_false_eq_true, Nat.zero_add]
    rw [e] at hc
    rw [hc, List.getD_eq_getElem?_getD, hj]
    rfl
  rw [hq] at hAt
  have q0 := hAt 0 a rfl
  have q1 := hAt 1 b rfl
  have q2 := hAt 2 c rfl
  have q3 := hAt 3 d rfl
  have q4 := hAt 4 f rfl
  rw [hq]
  rw [Nat.add_zero] at q0
  clear hq hAt
  obtain ⟨c0, c1⟩ := hr.cells
  have hO := fun W => pof_any a b c d f W
  obtain ⟨o0, o1⟩ := of5_31 a b c d f
  have hv : vrd (a :: b :: c :: d :: f :: t) = chV (of5 a b c d f) := rfl
  have hVR : ∀ e w', VR g U n at_ (chV (of5 a b c d f)).1 (chV (of5 a b c d f)).2 w e w' → ValRet g U n (a :: b :: c :: d :: f :: t) at_ w e w' := fun e w' h => h
  refine Calls.mono ?_ hVR
  clear hv hVR
  have hV := fun W => pvalue_any (of5 a b c d f) W o0 o1
  generalize of5 a b c d f = x at *
  generalize chV x = p at *
  obtain ⟨v, z⟩ := p
  have e1 : IntKind.i64.wrap ((at_ : Int) + 5) = (at_ : Int) + 5 := IntWalk.i64_in _ (by omega)
  have d1 : decide ((n : Int) < (at_ : Int) + 5) = false := decide_eq_false (by omega)
  have b0 : (0 : Int) ≤ (at_ : Int) := by omega
  have b1 : (at_ : Int) ≤ (n : Int) := by omega
  have b2 : (at_ : Int) + 5 ≤ (n : Int) := by omega
  have b3 : ¬ n = at_ := by omega
  have b4 : (0 : Int) ≤ (at_ : Int) + 5 := by omega
  have b5 : (at_ : Int) ≤ (at_ : Int) + 5 := by omega
  have hAA := fun (c : Nat) (w : World) => arrayAt5 ⟨U, at_, none⟩ (((at_ : Int) + 5).toNat - at_) c w (by omega)
  have HR := Lib.hid hr
  clear hr hL hn
  go_enter Try.func145, Try.ntmps145
  go_wp2
  go_quiet (fail)
  go_wp2
  go_region_held3 (fun w9 => w9.cell? ⟨g, 0, none⟩ = some (.slice (some ⟨U, 0, none⟩) n n) ∧ w9.cell? ⟨g, 1, none⟩ = some (.int .i64 (at_ : Int)) ∧ w9.cell? ⟨U, at_, none⟩ = some (.bool a) ∧ w9.cell? ⟨U, at_ + 1, none⟩ = some (.bool b) ∧ w9.cell? ⟨U, at_ + 2, none⟩ = some (.bool c) ∧ w9.cell? ⟨U, at_ + 3, none⟩ = some (.bool d) ∧ w9.cell? ⟨U, at_ + 4, none⟩ = some (.bool f)) (first | (go_keep; done) | exact Rd7.below (by assumption) hb)
    (first | (go_at_call 144; (with_reducible refine (hO _).mono ?_); rintro e w' ⟨rfl, hb⟩) | (go_at_call 159; (with_reducible refine (hV _).mono ?_); rintro e w' ⟨rfl, rfl⟩))
  rename_i w' hHeld
  have hb0 : Below w.heap.size w w' := bT (bN (bR w) _) hb
  have hR' : RdrAt w' g U n at_ := (hb0.block g (Array.getElem?_eq_some_iff.1 HR.out).1).trans HR.out
  have hfr := row_free hR' 1
  have HS := Lib.hid (heap_setCell_same w' g 1 _ _ (.int .i64 ((at_ : Int) + 5)) hR')
  have HB := Lib.hid hb0
  have hc1 := hHeld.2.1
  clear hb hb0 hHeld hR' c0 c1 q0 q1 q2 q3 q4
  by_cases hz : z = 0
  · have d2 : (z != 0) = false := by simp [hz]
    have HZ := Lib.hid hz
    clear hz
    go_wp2
    go_ret
    exact ⟨grown_set (grown_below HB.out _), fun _ => ⟨rfl, HS.out⟩, fun h => absurd HZ.out h⟩
  · have d2 : (z != 0) = true := by simpa using hz
    have HZ := Lib.hid hz
    clear hz
    go_wp2
    exact ⟨rfl, grown_below HB.out _, fun h => absurd h HZ.out, fun _ => rfl⟩
theorem rvalue_any (g U n at_ : Nat) (L : List Bool) (w : World) (hr : RdrAt w g U n at_) (hL : RdB w (some ⟨U, 0, none⟩) L) (hn : L.length = n) (hn9 : n ≤ 9000) (ha : at_ ≤ n) :
    Calls Try.prog 145 #[.pointer (some ⟨g, 0, none⟩)] w (ValRet g U n (L.drop at_) at_ w) := by
  by_cases h : n < at_ + 5
  · exact value_end g U n at_ L w hr hL hn hn9 ha h
  · exact value_some g U n at_ L w hr hL hn hn9 (by omega)
end Go.Proofs.Ytachkhjbckapoaa

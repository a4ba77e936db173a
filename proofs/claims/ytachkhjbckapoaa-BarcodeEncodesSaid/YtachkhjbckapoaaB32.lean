/- Layer 19: the example that each law asks first: what it comes to, plain. No condition. -/
import Derived.Test.YtachkhjbckapoaaB31
namespace Go.Proofs.Ytachkhjbckapoaa
open Go.RowKit
set_option linter.unusedVariables false
set_option maxRecDepth 100000
set_option linter.unusedSimpArgs false

def r0L : List Int := [42, 1, 3, 20, 2, 0, 0, 10, 1, 1, 0, 5, 0, 0, 1]
def k0K : Ky := ⟨5, [1, 2, 3], 0, 99⟩
def k1K : Ky := ⟨5, [1, 2, 4], 0, 99⟩
def b0L : List Int := putF (fpE r0L).1
theorem b0_len : b0L.length = 27 := by kernel_rfl
theorem f0_err : (fpE r0L).2 = 0 := by kernel_rfl
theorem ring0 : ringB [k0K] = true := by decide
theorem ring1 : ringB [k1K] = true := by decide
theorem find0 : findE [k0K] 5 = (some k0K, 0) := by kernel_rfl
theorem find1 : findE [k1K] 5 = (some k1K, 0) := by kernel_rfl
theorem tags_ne : (tagN [1, 2, 3] (66 :: b0L) == tagN [1, 2, 4] (66 :: b0L)) = false := by kernel_rfl
theorem dec_48 : openE [48, 48] = (([], [], []), 14) := by kernel_rfl
theorem coded_facts : ∃ s0 : List Int, s0.length = 89 ∧ (∀ x ∈ s0, 0 ≤ x ∧ x < 256) ∧ encE [k0K] r0L = (s0, 0) ∧ decE [k0K] s0 = (r0L, 0) ∧ verW s0 = (1, 0) ∧ decE [k1K] s0 = (zL, 11) ∧ decE [] s0 = (zL, 10) ∧ encE [] r0L = ([], 10) ∧ decE [k0K] [48, 48] = (zL, 14) := by
  have hq : fpE r0L = ((fpE r0L).1, 0) := by rw [← f0_err]
  obtain ⟨b1, b2, b3⟩ := fields_back (l := r0L) rfl hq
  have hF : encF [k0K] r0L = ((fpE r0L).1, 0) := by unfold encF; rw [ring0]; exact hq
  have hp : (putE17 (fpE r0L).1).2 = 0 := by unfold putE17; rw [if_pos b2]
  have he : encE [k0K] r0L = (fortyPut (b0L ++ tagN [1, 2, 3] (66 :: b0L)), 0) := by
    rw [encE_ok (k := k0K) (by rw [hF]) find0 (by rw [hF]; exact hp), hF, (tlvB_vals hp).2]
    rfl
  obtain ⟨d1, d2⟩ := enc_dec (l := r0L) rfl he
  obtain ⟨q, k, _, e2, _, e4, e5, _, _, e8⟩ := enc_parts (l := r0L) rfl he
  rw [hq] at e2
  obtain rfl : (fpE r0L).1 = q := by simpa using e2
  have ho := open_put (b := b0L) e8 (tagN_byte [1, 2, 3] (66 :: b0L)) (tagN_len _ _) (tlvGet_put e4)
  refine ⟨_, ?_, fortyPut_byte _, he, d1, d2, ?_, ?_, ?_, ?_⟩
  · rw [fortyPut_len, List.length_append, b0_len, tagN_len]
  · rw [decE_open ring1 ho]
    unfold decF
    rw [if_neg (by rw [e5]; simp), e5]
    simp only
    rw [show r0L.getD 11 0 = 5 from rfl, find1]
    simp only
    rw [if_neg (by rw [show k1K.sec = [1, 2, 4] from rfl, tags_ne]; simp)]
  · rw [decE_open (ks := []) (by decide) ho]
    unfold decF
    rw [if_neg (by rw [e5]; simp), e5]
    rfl
  · unfold encE
    rw [show encF [] r0L = ((fpE r0L).1, 0) from hq]
    rfl
  · unfold decE
    rw [if_neg (by rw [ring0]; simp), dec_48]
    rfl
theorem tag_1 : tagN [1] [66] = [223, 152, 161, 58, 32, 149, 149, 200, 55, 133, 66, 21, 212, 95, 169, 195, 153, 21, 252, 61, 83, 174, 120, 30, 191, 79, 242, 216, 216, 152, 175, 73] := by kernel_rfl
theorem tag_2 : tagN [2] [66] = [156, 58, 19, 156, 88, 59, 163, 97, 51, 42, 38, 158, 134, 6, 163, 120, 142, 45, 165, 97, 203, 110, 215, 78, 160, 123, 198, 17, 225, 29, 192, 136] := by kernel_rfl
end Go.Proofs.Ytachkhjbckapoaa

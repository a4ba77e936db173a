/- Layer 1: bytes as words and back, by the program. Condition: lengths in bounds, a multiple of four. Words on memory: append of zeros onto a row of the call's own; a copy of bytes. Layer 2: bytes are filled up to whole blocks, by the program. Condition: not more than some 2^46 bytes. No condition. -/
import Derived.Test.YtnbghgenaolfgaaS02
import Derived.Test.YtnbghgenaolfgaaS01
import Derived.Test.YtnbghgenaolfgaaS00
import Derived.Lib.AppendZerosOnto
import Derived.WalkSpells
namespace Go.Proofs.Ytnbghgenaolfgaa
open Go.RowKit
set_option linter.unusedVariables false
set_option maxRecDepth 100000
set_option linter.unusedSimpArgs false

def word4 (a b c d : Int) : Nat := a.toNat * 16777216 + b.toNat * 65536 + c.toNat * 256 + d.toNat
def wordsN : List Int → List Nat
  | a :: b :: c :: d :: t => word4 a b c d :: wordsN t
  | _ => []
def beW (x : Nat) : List Int := [(x : Int) / 16777216, (x : Int) / 65536 % 256, (x : Int) / 256 % 256, (x : Int) % 256]
def bytesN : List Nat → List Int
  | [] => []
  | x :: t => beW x ++ bytesN t
theorem word4_lt {a b c d : Int} (ha : 0 ≤ a ∧ a < 256) (hb : 0 ≤ b ∧ b < 256) (hc : 0 ≤ c ∧ c < 256) (hd : 0 ≤ d ∧ d < 256) : word4 a b c d < 4294967296 := by unfold word4; omega
theorem wordsN_len : ∀ (m : Nat) (l : List Int), l.length = 4 * m → (wordsN l).length = m
  | 0, l, h => by
    obtain rfl : l = [] := List.eq_nil_of_length_eq_zero (by omega)
    rfl
  | m + 1, l, h => by
    rcases l with _ | ⟨a, _ | ⟨b, _ | ⟨c, _ | ⟨d, t⟩⟩⟩⟩ <;> simp at h <;> try omega
    simp only [wordsN, List.length_cons]
    rw [wordsN_len m t (by omega)]
theorem wordsN_snoc : ∀ (k : Nat) (l : List Int), 4 * k + 4 ≤ l.length → wordsN (l.take (4 * (k + 1))) = wordsN (l.take (4 * k)) ++ [word4 (l.getD (4 * k) 0) (l.getD (4 * k + 1) 0) (l.getD (4 * k + 2) 0) (l.getD (4 * k + 3) 0)]
  | 0, l, h => by
    rcases l with _ | ⟨a, _ | ⟨b, _ | ⟨c, _ | ⟨d, t⟩⟩⟩⟩ <;> simp at h
    simp [wordsN]
  | k + 1, l, h => by
    rcases l with _ | ⟨a, _ | ⟨b, _ | ⟨c, _ | ⟨d, t⟩⟩⟩⟩ <;> simp at h <;> try omega
    have ih := wordsN_snoc k t (by omega)
    rw [show 4 * (k + 1 + 1) = (4 * (k + 1)) + 1 + 1 + 1 + 1 by omega, show 4 * (k + 1) = 4 * k + 1 + 1 + 1 + 1 by omega]
    simp only [List.take_succ_cons, wordsN, List.getD_cons_succ, List.cons_append]
    rw [show 4 * k + 1 + 1 + 1 + 1 = 4 * (k + 1) by omega, ih]
theorem wordsN_W32 : ∀ (l : List Int), (∀ x ∈ l, 0 ≤ x ∧ x < 256) → W32 (wordsN l)
  | a :: b :: c :: d :: t, h => fun x hx => by
    simp only [wordsN, List.mem_cons] at hx
    rcases hx with rfl | hx
    · exact word4_lt (h a (by simp)) (h b (by simp)) (h c (by simp)) (h d (by simp))
    · exact wordsN_W32 t (fun y hy => h y (by simp [hy])) x hx
  | [], _ => by simp [W32, wordsN]
  | [_], _ => by simp [W32, wordsN]
  | [_, _], _ => by simp [W32, wordsN]
  | [_, _, _], _ => by simp [W32, wordsN]
theorem words_at {l : List Int} {m k : Nat} (hl : l.length = 4 * m) (hk : k < m) : (wv (wordsN (l.take (4 * k)) ++ List.replicate (m - k) 0))[k]? = some (.int .u32 0) := by
  have h1 : (wordsN (l.take (4 * k))).length = k := wordsN_len k _ (by rw [List.length_take]; omega)
  obtain ⟨j, hj⟩ : ∃ j, m - k = j + 1 := ⟨m - k - 1, by omega⟩
  rw [wv, List.getElem?_map, List.getElem?_append_right (by omega), h1, Nat.sub_self, hj]
  rfl
theorem words_set {l : List Int} {m k y : Nat} (hl : l.length = 4 * m) (hk : k < m) (h : wordsN (l.take (4 * (k + 1))) = wordsN (l.take (4 * k)) ++ [y]) : (wv (wordsN (l.take (4 * k)) ++ List.replicate (m - k) 0)).set k (.int .u32 (y : Int)) = wv (wordsN (l.take (4 * (k + 1))) ++ List.replicate (m - (k + 1)) 0) := by
  have h1 : (wordsN (l.take (4 * k))).length = k := wordsN_len k _ (by rw [List.length_take]; omega)
  obtain ⟨j, hj⟩ : ∃ j, m - k = j + 1 := ⟨m - k - 1, by omega⟩
  rw [wv_set, h, hj, show m - (k + 1) = j by omega, List.replicate_succ, List.set_append, if_neg (by omega), h1, Nat.sub_self, List.set_cons_zero, List.append_assoc]
  rfl
theorem or4 {a b c d : Int} (ha : 0 ≤ a ∧ a < 256) (hb : 0 ≤ b ∧ b < 256) (hc : 0 ≤ c ∧ c < 256) (hd : 0 ≤ d ∧ d < 256) :
    bits .or .u32 (bits .or .u32 (bits .or .u32 (IntKind.u32.wrap (a * 16777216)) (IntKind.u32.wrap (b * 65536))) (IntKind.u32.wrap (c * 256))) d = ((word4 a b c d : Nat) : Int) := by
  have wr : ∀ n : Int, 0 ≤ n → n < 2 ^ 32 → IntKind.u32.wrap n = n := wraps_u32
  rw [wr (a * 16777216) (by omega) (by omega), wr (b * 65536) (by omega) (by omega), wr (c * 256) (by omega) (by omega)]
  have j1 : bits .or .u32 (a * 16777216) (b * 65536) = a * 16777216 + b * 65536 := bits_join .u32 32 (by decide) wraps_u32 24 (a * 16777216) (b * 65536) (by omega) (by omega) (by omega) (by omega) (by omega) (by omega)
  have j2 : bits .or .u32 (a * 16777216 + b * 65536) (c * 256) = a * 16777216 + b * 65536 + c * 256 := bits_join .u32 32 (by decide) wraps_u32 16 (a * 16777216 + b * 65536) (c * 256) (by omega) (by omega) (by omega) (by omega) (by omega) (by omega)
  have j3 : bits .or .u32 (a * 16777216 + b * 65536 + c * 256) d = a * 16777216 + b * 65536 + c * 256 + d := bits_join .u32 32 (by decide) wraps_u32 8 (a * 16777216 + b * 65536 + c * 256) d (by omega) (by omega) (by omega) (by omega) (by omega) (by omega)
  rw [j1, j2, j3]
  unfold word4
  omega
theorem infoU32 : (Try.prog.info? 164).map (fun i => (i.zero, i.size, i.bytes)) = some (some (.int .u32 0), 1, 4) := by kernel_rfl

set_option maxHeartbeats 4000000 in
theorem words_any (A : Option Addr) (c m : Nat) (l : List Int) (w : World) (hr : RdI w .u8 A l) (hl : l.length = 4 * m) (hlc : l.length ≤ c) (hm : m ≤ 1000000) (hb : ∀ x ∈ l, 0 ≤ x ∧ x < 256) :
    Calls Try.prog 146 #[.slice A l.length c] w fun e w' => ∃ g, e = .returned (.tuple #[.slice (some ⟨g, 0, none⟩) m m, .int .i64 0]) ∧ w'.ownsRow w.heap.size 164 1 (.slice (some ⟨g, 0, none⟩) m m) m (wv (wordsN l)) ∧ Below w.heap.size w w' := by
  obtain ⟨i0, hi, hz0, hz1, hz2⟩ := info_parts infoU32
  have d1 : (l.length : Int) % 4 = 0 := by omega
  have d2 : (l.length : Int) / 4 = (m : Int) := by omega
  have HL := Lib.hid hl
  clear hl
  go_enter Try.func146, Try.ntmps146
  go_wp2_with (first
    | (at_make; refine wpList_make_full _ rfl _ _ 166 rfl w.heap.size 164 i0 (.int .u32 0) 1 Try.underlying166 hi hz0 hz1 .i64 .i64 _ _ m rfl rfl rfl rfl (by rw [hz2]; omega) (by unfold maxLen; omega) (Nat.le_refl _) ?_; intro w1 hown hg))
  have hown2 : w1.ownsRow w.heap.size 164 1 (.slice (some ⟨w.heap.size, 0, none⟩) m m) m (wv (wordsN (l.take (4 * 0)) ++ List.replicate (m - 0) 0)) := by
    have e : (madeCells (Value.int .u32 0).cells (m * 1)).toList = wv (wordsN (l.take (4 * 0)) ++ List.replicate (m - 0) 0) := by
      show (madeCells #[Value.int .u32 0] (m * 1)).toList = _
      rw [toList_madeCells_one]; simp [wv, wordsN]
    rw [← e]; exact hown
  clear hown
  go_loopw [17] (fun i wr => ∃ k : Nat, k ≤ m ∧ i = .int .i64 k ∧ wr.ownsRow w.heap.size 164 1 (.slice (some ⟨w.heap.size, 0, none⟩) m m) m (wv (wordsN (l.take (4 * k)) ++ List.replicate (m - k) 0)) ∧ Below w.heap.size w wr) (fun i _ => m - (intOf i).toNat)
  case atStart => exact ⟨0, Nat.zero_le _, rfl, hown2, bG (bR _) hg (fun k h => by cases h)⟩
  case round =>
    obtain ⟨k, hk, rfl, ho, hbl⟩ := hrel
    by_cases hlt : k < m
    · obtain ⟨ad, rfl, q0⟩ := (hr.below hbl).at_ (j := 4 * k) (by rw [HL.out]; omega)
      obtain ⟨ad', ha', q1⟩ := (hr.below hbl).at_ (j := 4 * k + 1) (by rw [HL.out]; omega)
      obtain rfl := Option.some.inj ha'
      obtain ⟨ad', ha', q2⟩ := (hr.below hbl).at_ (j := 4 * k + 2) (by rw [HL.out]; omega)
      obtain rfl := Option.some.inj ha'
      obtain ⟨ad', ha', q3⟩ := (hr.below hbl).at_ (j := 4 * k + 3) (by rw [HL.out]; omega)
      obtain rfl := Option.some.inj ha'
      rw [← add_add] at q1 q2 q3
      obtain ⟨pd, hpd⟩ : ∃ pd, ad.add (4 * k) = pd := ⟨_, rfl⟩
      rw [hpd] at q0 q1 q2 q3
      have hx0 := hb _ (getD_mem (show 4 * k < l.length by rw [HL.out]; omega))
      have hx1 := hb _ (getD_mem (show 4 * k + 1 < l.length by rw [HL.out]; omega))
      have hx2 := hb _ (getD_mem (show 4 * k + 2 < l.length by rw [HL.out]; omega))
      have hx3 := hb _ (getD_mem (show 4 * k + 3 < l.length by rw [HL.out]; omega))
      have HSN := Lib.hid (wordsN_snoc k l (by rw [HL.out]; omega))
      generalize l.getD (4 * k) 0 = x0 at *
      generalize l.getD (4 * k + 1) 0 = x1 at *
      generalize l.getD (4 * k + 2) 0 = x2 at *
      generalize l.getD (4 * k + 3) 0 = x3 at *
      have hck : ¬ c = 4 * k := by have := HL.out; omega
      have n1 : (4 * (k : Int)).toNat = 4 * k := by omega
      have n2 : (4 * (k : Int) + 4).toNat = 4 * k + 4 := by omega
      have n3 : (4 * (k : Int) + 4 : Int) ≤ (c : Int) := by have := HL.out; omega
      have hcell := ho.cellAt k (by omega)
      rw [show (wv (wordsN (l.take (4 * k)) ++ List.replicate (m - k) 0))[k]? = some (.int .u32 0) from words_at HL.out hlt] at hcell
      have hfr := ho.frozenAt k
      obtain ⟨y, hy⟩ : ∃ y, word4 x0 x1 x2 x3 = y := ⟨_, rfl⟩
      have X : bits .or .u32 (bits .or .u32 (bits .or .u32 (IntKind.u32.wrap (x0 * 16777216)) (IntKind.u32.wrap (x1 * 65536))) (IntKind.u32.wrap (x2 * 256))) x3 = (y : Int) := by rw [← hy]; exact or4 hx0 hx1 hx2 hx3
      have w0 : IntKind.u32.wrap x0 = x0 := wraps_u32 _ (by omega) (by omega)
      have w1' : IntKind.u32.wrap x1 = x1 := wraps_u32 _ (by omega) (by omega)
      have w2' : IntKind.u32.wrap x2 = x2 := wraps_u32 _ (by omega) (by omega)
      have w3' : IntKind.u32.wrap x3 = x3 := wraps_u32 _ (by omega) (by omega)
      have HO := Lib.hid (ho.stored k (.int .u32 (y : Int)))
      have HY := Lib.hid hy
      have r0 : ({ heap := wr.heap, tape := wr.tape, drawn := wr.drawn + 1, os := wr.os, output := wr.output } : World).cell? pd = some (.int .u8 x0) := q0
      have r1 : ({ heap := wr.heap, tape := wr.tape, drawn := wr.drawn + 1, os := wr.os, output := wr.output } : World).cell? ⟨pd.block, pd.off + 1, none⟩ = some (.int .u8 x1) := q1
      have r2 : ({ heap := wr.heap, tape := wr.tape, drawn := wr.drawn + 1, os := wr.os, output := wr.output } : World).cell? ⟨pd.block, pd.off + 2, none⟩ = some (.int .u8 x2) := q2
      have r3 : ({ heap := wr.heap, tape := wr.tape, drawn := wr.drawn + 1, os := wr.os, output := wr.output } : World).cell? ⟨pd.block, pd.off + 3, none⟩ = some (.int .u8 x3) := q3
      have s0 : wr.cell? pd = some (.int .u8 x0) := q0
      have s1 : wr.cell? ⟨pd.block, pd.off + 1, none⟩ = some (.int .u8 x1) := q1
      have s2 : wr.cell? ⟨pd.block, pd.off + 2, none⟩ = some (.int .u8 x2) := q2
      have s3 : wr.cell? ⟨pd.block, pd.off + 3, none⟩ = some (.int .u8 x3) := q3
      clear hy q0 q1 q2 q3
      go_wp2
      go_still_tail 25, (by kernel_rfl)
      go_wp2
      go_roundw
      case rel => exact ⟨k + 1, by omega, by go_num, by rw [← words_set HL.out hlt (by rw [HSN.out, HY.out])]; exact HO.out.1, bD (bS hbl (Nat.le_refl _))⟩
      case measure => simp [intOf]; omega
    · obtain rfl : k = m := by omega
      have ho' := ho
      rw [Nat.sub_self, List.replicate_zero, List.append_nil, List.take_of_length_le (by rw [HL.out]; exact Nat.le_refl _)] at ho'
      have HO := Lib.hid ho'
      clear ho ho' hown2 hg
      go_wp2
      go_ret2
      exact ⟨_, rfl, HO.out, hbl⟩

theorem bytesN_len : ∀ (l : List Nat), (bytesN l).length = 4 * l.length
  | [] => rfl
  | x :: t => by simp only [bytesN, List.length_append, List.length_cons, bytesN_len t, beW, List.length_nil]; omega
theorem bytesN_app : ∀ (l m : List Nat), bytesN (l ++ m) = bytesN l ++ bytesN m
  | [], m => rfl
  | x :: t, m => by simp only [List.cons_append, bytesN, bytesN_app t m, List.append_assoc]
theorem bytesN_snoc {l : List Nat} {k : Nat} (h : k < l.length) : bytesN (l.take (k + 1)) = bytesN (l.take k) ++ beW (l.getD k 0) := by
  rw [List.take_succ_eq_append_getElem h, bytesN_app]
  simp [bytesN, List.getD_eq_getElem?_getD, h]
theorem bytesN_byte : ∀ (l : List Nat), W32 l → ∀ x ∈ bytesN l, 0 ≤ x ∧ x < 256
  | [], _, x, h => by simp [bytesN] at h
  | y :: t, hw, x, h => by
    have hy := hw y (by simp)
    simp only [bytesN, List.mem_append, beW, List.mem_cons, List.not_mem_nil, or_false] at h
    rcases h with (rfl | rfl | rfl | rfl) | h
    · omega
    · omega
    · omega
    · omega
    · exact bytesN_byte t (fun z hz => hw z (by simp [hz])) x h
set_option maxHeartbeats 4000000 in
theorem bytes_any (A : Option Addr) (c : Nat) (l : List Nat) (w : World) (hr : RdI w .u32 A (l.map (fun n : Nat => (n : Int)))) (hl : l.length ≤ 1000000) (hb : W32 l) :
    Calls Try.prog 148 #[.slice A l.length c] w fun e w' => ∃ v, e = .returned v ∧ w'.ownsRow w.heap.size 5 1 v (bytesN l).length ((bytesN l).map (.int .u8)) ∧ Below w.heap.size w w' := by
  obtain ⟨i0, hi, hz0, hz1, hz2⟩ := info_parts infoB8
  have e4 : wrap64 (4 * (l.length : Int)) = 4 * (l.length : Int) := by unfold wrap64; omega
  go_enter Try.func148, Try.ntmps148
  go_wp2_with (first
    | (at_make; refine wpList_make_own _ rfl _ _ 26 rfl w.heap.size 5 i0 (.int .u8 0) 1 Try.underlying26 hi hz0 hz1 .i64 .i64 _ (4 * l.length) rfl rfl ?_ ?_ ?_ (Nat.le_refl _) ?_; (focus (simp)); (focus (rw [hz2]; omega)); (focus (unfold maxLen; omega)); intro w1 hown hg))
  go_loopw [3, 12] (fun v i wr => ∃ k : Nat, k ≤ l.length ∧ i = .int .i64 k ∧ wr.ownsRow w.heap.size 5 1 v (bytesN (l.take k)).length ((bytesN (l.take k)).map (.int .u8)) ∧ Below w.heap.size w wr) (fun _ i _ => l.length - (intOf i).toNat)
  case atStart => exact ⟨0, Nat.zero_le _, rfl, hown, bG (bR _) hg (fun k h => by cases h)⟩
  case round =>
    obtain ⟨k, hk, rfl, ho, hbl⟩ := hrel
    by_cases hlt : k < l.length
    · obtain ⟨ad, rfl, q0⟩ := (hr.below hbl).at_ (j := k) (by simpa using hlt)
      rw [show (l.map (fun n : Nat => (n : Int))).getD k 0 = ((l.getD k 0 : Nat) : Int) by simp [List.getD_eq_getElem?_getD, hlt]] at q0
      have hx := hb.at_ k
      have HSN := Lib.hid (bytesN_snoc hlt)
      have hlen : (bytesN (l.take k)).length ≤ 4000000 := by rw [bytesN_len, List.length_take]; omega
      generalize l.getD k 0 = x at *
      obtain ⟨D, hD⟩ : ∃ D, bytesN (l.take k) = D := ⟨_, rfl⟩
      rw [hD] at ho hlen
      have HD := Lib.hid hD
      obtain ⟨b0, hb0⟩ : ∃ y, (x : Int) / 16777216 = y := ⟨_, rfl⟩
      obtain ⟨b1, hb1⟩ : ∃ y, (x : Int) / 65536 % 256 = y := ⟨_, rfl⟩
      obtain ⟨b2, hb2⟩ : ∃ y, (x : Int) / 256 % 256 = y := ⟨_, rfl⟩
      obtain ⟨b3, hb3⟩ : ∃ y, (x : Int) % 256 = y := ⟨_, rfl⟩
      have HBE : Hid (beW x = [b0, b1, b2, b3]) := Lib.hid (by unfold beW; rw [hb0, hb1, hb2, hb3])
      have W0 : IntKind.u8.wrap ((x : Int) / 16777216) = b0 := by rw [IntKind.wrap_u8]; omega
      have W1 : IntKind.u8.wrap ((x : Int) / 65536) = b1 := by rw [IntKind.wrap_u8]; omega
      have W2 : IntKind.u8.wrap ((x : Int) / 256) = b2 := by rw [IntKind.wrap_u8]; omega
      have W3 : IntKind.u8.wrap (x : Int) = b3 := by rw [IntKind.wrap_u8]; omega
      have hown3 := own_ge ho
      have HOG := Lib.hid hown3
      have HR := Lib.hid (show ∀ (W : World) (t : TypeId), RdI (W.alloc (.cells #[.int .u8 b0, .int .u8 b1, .int .u8 b2, .int .u8 b3] t)) .u8 (some ⟨W.heap.size, 0, none⟩) [b0, b1, b2, b3] from fun W t => RdI.lit W .u8 [b0, b1, b2, b3] t)
      clear hD hb0 hb1 hb2 hb3 hown3 hown hg
      go_wp2_with (at_builtin; refine wpL_app (k := .u8) rfl _ _ 26 rfl w.heap.size 5 i0 (.int .u8 0) 1 Try.underlying26 hi hz0 hz1 hz2 rfl _ (D) rfl (ho.alloc _) _ _ ([b0, b1, b2, b3]) rfl (HR.out _ _) ?_ ?_ ?_ ?_; (focus (exact maxLen_ge (by simp; omega))); (focus ((simp; omega))); (focus (have := hbl.size; simp; omega)); intro v2 w2 ho2 hg2 _)
      have h2 := bG (bA hbl _) hg2 HOG.out
      have HO2 := Lib.hid ho2
      clear hg2 ho2
      go_wp2
      go_roundw
      case rel => exact ⟨k + 1, by omega, by go_num, by rw [HSN.out, HD.out, HBE.out]; exact HO2.out, h2⟩
      case measure => simp [intOf]; omega
    · have ho' := ho
      rw [List.take_of_length_le (by omega)] at ho'
      have HO := Lib.hid ho'
      clear ho ho' hown hg
      go_wp2
      go_ret
      exact ⟨_, rfl, HO.out, hbl⟩
end Go.Proofs.Ytnbghgenaolfgaa

namespace Go.Proofs.Ytnbghgenaolfgaa
open Go.RowKit
set_option linter.unusedVariables false
set_option maxRecDepth 100000
set_option linter.unusedSimpArgs false

theorem zeros_list (z : Value) (hz : z.cells = #[z]) (k : Nat) : (Builtin.zeroCells z.cells k) = (List.replicate k z).toArray := by
  apply Array.ext'
  rw [hz]
  apply List.ext_getElem
  · simp [Builtin.zeroCells]
  · intro i h1 h2
    simp [Builtin.zeroCells, Nat.mod_one]
theorem run_append_zeros {P : Program} (w : World) (base : Nat) (t tn ty e : TypeId) (i : TypeInfo) (z : Value) (kq kn : IntKind) (bytes : Nat) (ht : P.underlying t = some (.slice e)) (htn : P.underlying tn = some (.int kn)) (hi : P.info? e = some i) (hz : i.zero = some z)
    (hsize : i.size = 1) (hby : i.bytes = bytes) (hzs : z.cells = #[z]) (h1 : z.oneCell' = true)
    (v : Value) (n : Nat) (xs : List Value) (hown : w.ownsRow base e 1 v n xs) (k : Nat)
    (h63 : n + k ≤ maxLen) (hbytes : (n + k) * bytes ≤ 140737488355328) (hbase : base ≤ w.heap.size) :
    ∃ v' w', (Builtin.append_ #[t, tn] ty #[v, .int kq k]).run P w = .ok v' w' ∧ w'.ownsRow base e 1 v' (n + k) (xs ++ List.replicate k z) ∧ w.grownBy w' v.ownBlock ∧ (v'.ownBlock = v.ownBlock ∨ v'.ownBlock = some w.heap.size) := by
  subst hby
  have hsmall : n + k ≤ 9223372036854775807 := by simp only [maxLen] at h63; omega
  have hx : xs.length = n := by simpa using hown.1
  by_cases hk : 0 < k
  rotate_left
  · obtain rfl : k = 0 := by omega
    have hw0 : IntKind.i64.wrap 0 = 0 := by decide
    refine ⟨v, w, ?_, by simpa using hown, World.grownBy.refl w _, .inl rfl⟩
    rcases hown.2 with ⟨rfl, rfl⟩ | ⟨g, cap, cur, rfl, _, _, hnc, _⟩
    · simp [Builtin.append_, run_underlying ht, run_underlying htn, sizeOf, typeInfo, hi, asInt, asIntOf, hw0]
    · simp [Builtin.append_, run_underlying ht, run_underlying htn, sizeOf, typeInfo, hi, asInt, asIntOf, hw0, hnc, storeCells]
  have hgrow : ∀ (bs : Option Addr) (cap : Nat) (b : Option Nat), v = .slice bs n cap → (Builtin.firstCells i.size n (.slice bs n cap)).run P w.drew = .ok xs.toArray w.drew → ¬ n + k ≤ cap → (n + k) * i.bytes ≤ 140737488355328 →
      ∃ v' w', (Builtin.append_ #[t, tn] ty #[v, .int kq k]).run P w = .ok v' w' ∧ w'.ownsRow base e 1 v' (n + k) (xs ++ List.replicate k z) ∧ w.grownBy w' b ∧ (v'.ownBlock = b ∨ v'.ownBlock = some w.heap.size) := by
    intro bs cap b hv hold hn hb
    have hm : k * i.bytes ≤ (n + k) * i.bytes := Nat.mul_le_mul_right _ (by omega)
    have hr := Lib.run_append_grow_zeros (P := P) w t tn ty e i z kq kn ht htn hi hz bs n cap xs hold k hk (by omega) (by omega) (by omega) (by omega) (growslice_fits (by omega) hb)
    rw [← hv] at hr
    have hge := grownCap_ge w (n + k) cap e
    have hcm : grownCap w (n + k) cap e ≤ maxLen := grownCap_le_maxLen w (n + k) cap e h63
    refine ⟨_, _, hr, ⟨by simp [hx], .inr ⟨w.heap.size, _, _, rfl, hbase, heap_alloc_new w.drew _, hge, hcm, ?_, ?_⟩⟩, ⟨rfl, rfl, rfl, by simp, fun j hj _ => _root_.Go.heap_alloc_old w.drew _ hj⟩, .inr rfl⟩
    · rw [zeros_list z hzs, zeros_list z hzs]
      simp [hx]; omega
    · rw [zeros_list z hzs, zeros_list z hzs]
      simp only [Array.toList_append]
      rw [show (n + k) * 1 = (xs ++ List.replicate k z).length by simp [hx]]
      exact List.take_left
  rcases hown.2 with ⟨rfl, rfl⟩ | ⟨g, cap, cur, rfl, hbg, hg, hnc, hcm, hcs, htake⟩
  · obtain rfl : xs = [] := List.eq_nil_of_length_eq_zero hx
    exact hgrow none 0 _ rfl (by simp [Builtin.firstCells, loadCells, loadCellsFrom]) (by omega) hbytes
  · by_cases hroom : n + k ≤ cap
    · have hw : IntKind.i64.wrap (k : Int) = k := by rw [IntKind.wrap_i64]; omega
      have hneg : ¬ ((k : Int) < 0) := by omega
      have h48i : ¬ (281474976710656 < (k : Int) * (i.bytes : Int)) := by
        rw [← Int.natCast_mul]
        have hm : k * i.bytes ≤ (n + k) * i.bytes := Nat.mul_le_mul_right _ (by omega)
        omega
      have hns : ¬ (k * i.size = 0) := Nat.mul_ne_zero (by omega) (by omega)
      have hlen : (List.replicate k z).length = k := by simp
      have hst := run_storeCells_at P g (n * 1) e (List.replicate k z) 0 cur w hg (by simp; omega) (fun u hu => by rw [List.eq_of_mem_replicate hu]; exact h1)
      simp only [Nat.add_zero, Nat.mul_one] at hst
      have hr : (Builtin.append_ #[t, tn] ty #[.slice (some ⟨g, 0, none⟩) n cap, .int kq k]).run P w = .ok (.slice (some ⟨g, 0, none⟩) (n + k) cap) (w.setRow g (cur.toList.take n ++ List.replicate k z ++ cur.toList.drop (n + k)).toArray) := by
        simp [Builtin.append_, run_underlying ht, run_underlying htn, sizeOf, typeInfo, zeroValue, hi, hz, asInt, asIntOf, hw, hneg, hns, h48i, hroom, hsize, show ¬ k = 0 by omega, zeros_list z hzs, Addr.add_lit, hst, Question.forced]
      refine ⟨_, _, hr, ⟨by simp [hx], .inr ⟨g, cap, _, rfl, hbg, setRow_heap w g cur _ e _ hg, hroom, hcm, ?_, ?_⟩⟩, ⟨rfl, rfl, rfl, by simp, fun j _ hj => setRow_other w g j _ (fun e => hj (by simp [Value.ownBlock, e]))⟩, Or.inl rfl⟩
      · simp only [List.size_toArray, List.length_append, List.length_take, List.length_drop, Array.length_toList, List.length_replicate]
        omega
      · rw [Nat.mul_one] at htake
        rw [htake]
        rw [show (n + k) * 1 = (xs ++ List.replicate k z).length by simp [hx]]
        exact List.take_left
    · have holds : ∀ j u, xs[j]? = some u → w.cell? ((⟨g, 0, none⟩ : Addr).add j) = some u := hown.cells (g := g) rfl
      refine hgrow (some ⟨g, 0, none⟩) cap (some g) rfl ?_ hroom hbytes
      have := _root_.Go.run_firstCells_some (P := P) w.drew i.size n ⟨g, 0, none⟩ n cap xs (by rw [hsize, hx, Nat.mul_one]) (fun j u h => by exact holds j u h)
      exact this

/-- append(v, make([]T, k)...), v a row of the call's own. -/
theorem wpL_appz {P : Program} {w : World} {ops : Array Oper} {rest : List Oper} {o : Oper} {a : Act} {Q : Exit → Act → World → Prop} {k : IntKind} (hgd : o.guard = none) (s x : Operand) (t tn : TypeId)
    (ho : o.op = .call { callee := .builtin .append, args := #[s, x], argTypes := #[t, tn] })
    (base : Nat) (e : TypeId) (i : TypeInfo) (bytes : Nat) (kn : IntKind) (ht : P.underlying t = some (.slice e)) (htn : P.underlying tn = some (.int kn)) (hi : P.info? e = some i) (hz : i.zero = some (.int k 0))
    (hsize : i.size = 1) (hby : i.bytes = bytes)
    (v : Value) (xs : List Int) (hs : a.eval s = v) (hown : w.ownsRow base e 1 v xs.length (xs.map (.int k)))
    (m : Nat) (kq : IntKind) (M : Int) (hx : a.eval x = .int kq M) (hM : M = (m : Int))
    (h63 : xs.length + m ≤ maxLen) (hbytes : (xs.length + m) * bytes ≤ 140737488355328) (hbase : base ≤ w.heap.size)
    (h : ∀ v' w', w'.ownsRow base e 1 v' (xs ++ List.replicate m 0).length ((xs ++ List.replicate m 0).map (.int k)) → w.grownBy w' v.ownBlock → (v'.ownBlock = v.ownBlock ∨ v'.ownBlock = some w.heap.size) → wpList P ops Q rest (a.put o.dst v') w') :
    wpList P ops Q (o :: rest) a w := by
  subst hM
  refine wpList_plain hgd fun K hK => ?_
  obtain ⟨v', w', hr, h2, h3, h4⟩ := run_append_zeros (P := P) w base t tn o.type e i (.int k 0) kq kn bytes ht htn hi hz hsize hby rfl rfl v xs.length _ hown m h63 hbytes hbase
  unfold Oper.wp execOp
  simp only [ho, resolve, invoke, builtin, Sem.run_bind, Sem.run_pure, Result.andThen_ok, List.map_toArray, List.map_cons, List.map_nil, hs, hx, hr]
  exact hK _ _ (h v' w' (by simpa using h2) h3 h4)
end Go.Proofs.Ytnbghgenaolfgaa

namespace Go.Proofs.Ytnbghgenaolfgaa
open Go.RowKit
set_option linter.unusedVariables false
set_option maxRecDepth 100000
set_option linter.unusedSimpArgs false

def zerosN (n : Nat) : Nat := (119 - n % 64) % 64
def padN (l : List Int) : List Int := l ++ [128] ++ List.replicate (zerosN l.length) 0 ++ bytesN [8 * l.length / 4294967296 % 4294967296, 8 * l.length % 4294967296]
theorem padN_len (l : List Int) : (padN l).length % 64 = 0 ∧ (padN l).length ≤ l.length + 72 := by
  unfold padN zerosN
  simp only [List.length_append, List.length_cons, List.length_nil, List.length_replicate, bytesN_len]
  omega
theorem padN_byte {l : List Int} (h : ∀ x ∈ l, 0 ≤ x ∧ x < 256) : ∀ x ∈ padN l, 0 ≤ x ∧ x < 256 := by
  intro x hx
  unfold padN at hx
  simp only [List.mem_append] at hx
  rcases hx with ((hx | hx) | hx) | hx
  · exact h x hx
  · simp at hx; subst hx; omega
  · rw [List.eq_of_mem_replicate hx]; omega
  · refine bytesN_byte _ ?_ x hx
    intro y hy
    simp at hy
    omega

theorem clone_any (A : Option Addr) (c : Nat) (l : List Int) (w : World) (hr : RdI w .u8 A l) (hl : l.length ≤ 140737488355000) :
    Calls Try.prog 161 #[.slice A l.length c] w fun e w' => ∃ v, e = .returned v ∧ w'.ownsRow w.heap.size 5 1 v l.length (l.map (.int .u8)) ∧ Below w.heap.size w w' := by
  obtain ⟨i0, hi, hz0, hz1, hz2⟩ := info_parts infoB8
  have hn := fun W : World => Lib.run_eql_slice_nil (P := Try.prog) W 26 5 A l.length c 0 0 Try.underlying26
  cases A with
  | none =>
    have hz : l = [] := by
      rcases hr with h | ⟨ad, h, _⟩
      · exact h
      · cases h
    subst hz
    have hn2 := fun W : World => Lib.run_eql_slice_nil (P := Try.prog) W 26 5 none 0 c 0 0 Try.underlying26
    simp only [List.length_nil]
    go_enter Try.func161, Try.ntmps161
    go_wp2
    go_ret
    exact ⟨_, rfl, World.ownsRow_nil _ _ _ _, bR _⟩
  | some ad =>
    go_enter Try.func161, Try.ntmps161
    go_wp2_with (at_builtin; refine wpL_app (k := .u8) rfl _ _ 26 rfl w.heap.size 5 i0 (.int .u8 0) 1 Try.underlying26 hi hz0 hz1 hz2 rfl _ ([]) rfl (own_lit0 _ _ _) _ _ (l) rfl (hr.below (bel1 _ _)) ?_ ?_ ?_ ?_; (focus (unfold maxLen; simp; omega)); (focus ((simp; omega))); (focus (first | (simp; done) | (simp; omega))); intro v2 w2 ho2 hg2 _)
    have h2 := bG (bel1 w _) hg2 (fun k h => by have := ob_slice h; omega)
    have HO2 := Lib.hid ho2
    clear hg2 ho2
    go_wp2
    go_ret
    exact ⟨_, rfl, by have h := HO2.out; simpa using h, h2⟩

set_option maxHeartbeats 4000000 in
theorem pad_any (A : Option Addr) (c : Nat) (l : List Int) (w : World) (hr : RdI w .u8 A l) (hl : l.length ≤ 70368744177664) :
    Calls Try.prog 145 #[.slice A l.length c] w fun e w' => ∃ v, e = .returned v ∧ w'.ownsRow w.heap.size 5 1 v (padN l).length ((padN l).map (.int .u8)) ∧ Below w.heap.size w w' := by
  obtain ⟨i0, hi, hz0, hz1, hz2⟩ := info_parts infoB8
  have d1 : (l.length : Int) % 64 = ((l.length % 64 : Nat) : Int) := by simp
  obtain ⟨r, hr0⟩ : ∃ r, l.length % 64 = r := ⟨_, rfl⟩
  obtain ⟨z, hz⟩ : ∃ z, (119 - r) % 64 = z := ⟨_, rfl⟩
  rw [hr0] at d1
  have hrl : r < 64 := by omega
  have hzl : z < 64 := by omega
  have d2 : (119 - (r : Int)) % 64 = (z : Int) := by omega
  have d3 : IntKind.u64.wrap (l.length : Int) = (l.length : Int) := by rw [IntKind.wrap_u64]; omega
  have d4 : IntKind.u64.wrap ((l.length : Int) * 8) = 8 * (l.length : Int) := by rw [IntKind.wrap_u64]; omega
  have HZ : Hid (zerosN l.length = z) := Lib.hid (by unfold zerosN; rw [hr0, hz])
  clear hz hr0
  go_enter Try.func145, Try.ntmps145
  go_wp2_with fail
  refine (clone_any A c l w hr (by omega)).mono ?_
  rintro e w1 ⟨v1, rfl, ho1, hb1⟩
  have hz1' := hb1.size
  have hG1 := own_ge ho1
  have HG1 := Lib.hid hG1
  have hb1' := hb1
  obtain ⟨p1, hp1⟩ : ∃ p, 8 * l.length / 4294967296 % 4294967296 = p := ⟨_, rfl⟩
  obtain ⟨p2, hp2⟩ : ∃ p, 8 * l.length % 4294967296 = p := ⟨_, rfl⟩
  have d5 : IntKind.u32.wrap (8 * (l.length : Int) / 4294967296) = (p1 : Int) := by rw [IntKind.wrap_u32]; omega
  have d6 : IntKind.u32.wrap (8 * (l.length : Int)) = (p2 : Int) := by rw [IntKind.wrap_u32]; omega
  have HP : Hid (padN l = l ++ [128] ++ List.replicate z 0 ++ bytesN [p1, p2]) := Lib.hid (by unfold padN; rw [HZ.out, hp1, hp2])
  have hpw : W32 [p1, p2] := by intro x hx; simp at hx; rcases hx with rfl | rfl <;> omega
  clear hp1 hp2 hG1
  go_wp2_with (first | (at_builtin; refine wpL_app (k := .u8) rfl _ _ 26 rfl w.heap.size 5 i0 (.int .u8 0) 1 Try.underlying26 hi hz0 hz1 hz2 rfl _ (l) rfl (ho1.alloc _) _ _ ([128]) rfl (RdI.lit1 _ _ _ _) ?_ ?_ ?_ ?_; (focus (unfold maxLen; simp; omega)); (focus ((simp; omega))); (focus (first | (simp; done) | (simp; omega))); intro v2 w2 ho2 hg2 _) | (at_builtin; refine wpL_appz (k := .u8) rfl _ _ 26 3 rfl w.heap.size 5 i0 1 .i64 Try.underlying26 Try.underlying3 hi hz0 hz1 hz2 v2 (l ++ [128]) rfl ho2 z _ _ rfl d2 ?_ ?_ ?_ ?_; (focus (unfold maxLen; simp; omega)); (focus (simp; omega)); (focus (have := hg2.size; simp at this; omega)); intro v3 w3 ho3 hg3 hv3))
  have h2 := bG (bA hb1 _) hg2 HG1.out
  have h3 := bG h2 hg3 (own_ge ho2)
  have hz3 := h3.size
  have HO3 := Lib.hid ho3
  have HG3 := Lib.hid (own_ge ho3)
  clear hg2 hg3 ho2 ho3 hb1 hb1' ho1 h2 hv3
  refine (bytes_any (some ⟨w3.heap.size, 0, none⟩) 2 [p1, p2] _ ?_ (by simp) hpw).mono ?_
  · exact RdI.lit w3 .u32 [(p1 : Int), (p2 : Int)] _
  rintro e w4 ⟨v4, rfl, ho4, hb4⟩
  have hl8 : (bytesN [p1, p2]).length = 8 := bytesN_len [p1, p2]
  obtain ⟨BY, hBY⟩ : ∃ BY, bytesN [p1, p2] = BY := ⟨_, rfl⟩
  obtain ⟨D3, hD3⟩ : ∃ D, l ++ [128] ++ List.replicate z 0 = D := ⟨_, rfl⟩
  have hD3l : D3.length ≤ l.length + 65 := by rw [← hD3]; simp; omega
  have hHO3 := HO3.out
  rw [hD3] at hHO3
  rw [hBY] at ho4 hl8
  have HPB : Hid (padN l = D3 ++ BY) := Lib.hid (by rw [HP.out, hD3, hBY])
  obtain ⟨A4, c4, rfl, _, _⟩ := own_slice ho4
  have hr4 := RdI.of_own ho4
  have hb4' := bT (bel1 _ _) hb4
  have ho3' := own_below hHO3 hb4'
  have h4 := bT h3 hb4'
  have hz4 := h4.size
  have HL8 := Lib.hid hl8
  clear hb4 hb4' ho4 hl8 h3 hBY hD3 hHO3
  go_wp2_with (at_builtin; refine wpL_app (k := .u8) rfl _ _ 26 rfl w.heap.size 5 i0 (.int .u8 0) 1 Try.underlying26 hi hz0 hz1 hz2 rfl _ (D3) rfl (ho3') _ _ (BY) rfl (hr4) ?_ ?_ ?_ ?_; (focus (unfold maxLen; have := HL8.out; omega)); (focus ((have := HL8.out; omega))); (focus (omega)); intro v5 w5 ho5 hg5 _)
  have h5 := bG h4 hg5 HG3.out
  have HO5 := Lib.hid ho5
  clear hg5 ho5 ho3'
  go_wp2
  go_ret
  exact ⟨_, rfl, by rw [HPB.out]; exact HO5.out, h5⟩
end Go.Proofs.Ytnbghgenaolfgaa

/- Layer 1: bytes as words and back, by the program. Condition: lengths in bounds, a multiple of four. -/
import Derived.Test.YtiogogbkgekkdaaShaRot
import Derived.Test.YtiogogbkgekkdaaArr
import Derived.Test.YtiogogbkgekkdaaBcdGet
namespace Go.Proofs.Ytiogogbkgekkdaa
open Go.RowKit
set_option linter.unusedVariables false
set_option maxRecDepth 100000
set_option linter.unusedSimpArgs false

def word4 (a b c d : Int) : Nat := a.toNat * 16777216 + b.toNat * 65536 + c.toNat * 256 + d.toNat
def wordsN : List Int → List Nat
  | a :: b :: c :: d :: t => word4 a b c d :: wordsN t
  | _ => []
def beW (x : Nat) : List Int := [(x : Int) / 16777216, (x : Int) / 65536 % 256, (x : Int) / 256 % 256, (x : Int) % 256]
def bytesN : List Nat → List Int
  | [] => []
  | x :: t => beW x ++ bytesN t
theorem word4_lt {a b c d : Int} (ha : 0 ≤ a ∧ a < 256) (hb : 0 ≤ b ∧ b < 256) (hc : 0 ≤ c ∧ c < 256) (hd : 0 ≤ d ∧ d < 256) : word4 a b c d < 4294967296 := by unfold word4; omega
theorem wordsN_len : ∀ (m : Nat) (l : List Int), l.length = 4 * m → (wordsN l).length = m
  | 0, l, h => by
    obtain rfl : l = [] := List.eq_nil_of_length_eq_zero (by omega)
    rfl
  | m + 1, l, h => by
    rcases l with _ | ⟨a, _ | ⟨b, _ | ⟨c, _ | ⟨d, t⟩⟩⟩⟩ <;> simp at h <;> try omega
    simp only [wordsN, List.length_cons]
    rw [wordsN_len m t (by omega)]
theorem wordsN_snoc : ∀ (k : Nat) (l : List Int), 4 * k + 4 ≤ l.length → wordsN (l.take (4 * (k + 1))) = wordsN (l.take (4 * k)) ++ [word4 (l.getD (4 * k) 0) (l.getD (4 * k + 1) 0) (l.getD (4 * k + 2) 0) (l.getD (4 * k + 3) 0)]
  | 0, l, h => by
    rcases l with _ | ⟨a, _ | ⟨b, _ | ⟨c, _ | ⟨d, t⟩⟩⟩⟩ <;> simp at h
    simp [wordsN]
  | k + 1, l, h => by
    rcases l with _ | ⟨a, _ | ⟨b, _ | ⟨c, _ | ⟨d, t⟩⟩⟩⟩ <;> simp at h <;> try omega
    have ih := wordsN_snoc k t (by omega)
    rw [show 4 * (k + 1 + 1) = (4 * (k + 1)) + 1 + 1 + 1 + 1 by omega, show 4 * (k + 1) = 4 * k + 1 + 1 + 1 + 1 by omega]
    simp only [List.take_succ_cons, wordsN, List.getD_cons_succ, List.cons_append]
    rw [show 4 * k + 1 + 1 + 1 + 1 = 4 * (k + 1) by omega, ih]
theorem wordsN_W32 : ∀ (l : List Int), (∀ x ∈ l, 0 ≤ x ∧ x < 256) → W32 (wordsN l)
  | a :: b :: c :: d :: t, h => fun x hx => by
    simp only [wordsN, List.mem_cons] at hx
    rcases hx with rfl | hx
    · exact word4_lt (h a (by simp)) (h b (by simp)) (h c (by simp)) (h d (by simp))
    · exact wordsN_W32 t (fun y hy => h y (by simp [hy])) x hx
  | [], _ => by simp [W32, wordsN]
  | [_], _ => by simp [W32, wordsN]
  | [_, _], _ => by simp [W32, wordsN]
  | [_, _, _], _ => by simp [W32, wordsN]
theorem words_at {l : List Int} {m k : Nat} (hl : l.length = 4 * m) (hk : k < m) : (wv (wordsN (l.take (4 * k)) ++ List.replicate (m - k) 0))[k]? = some (.int .u32 0) := by
  have h1 : (wordsN (l.take (4 * k))).length = k := wordsN_len k _ (by rw [List.length_take]; omega)
  obtain ⟨j, hj⟩ : ∃ j, m - k = j + 1 := ⟨m - k - 1, by omega⟩
  rw [wv, List.getElem?_map, List.getElem?_append_right (by omega), h1, Nat.sub_self, hj]
  rfl
theorem words_set {l : List Int} {m k y : Nat} (hl : l.length = 4 * m) (hk : k < m) (h : wordsN (l.take (4 * (k + 1))) = wordsN (l.take (4 * k)) ++ [y]) : (wv (wordsN (l.take (4 * k)) ++ List.replicate (m - k) 0)).set k (.int .u32 (y : Int)) = wv (wordsN (l.take (4 * (k + 1))) ++ List.replicate (m - (k + 1)) 0) := by
  have h1 : (wordsN (l.take (4 * k))).length = k := wordsN_len k _ (by rw [List.length_take]; omega)
  obtain ⟨j, hj⟩ : ∃ j, m - k = j + 1 := ⟨m - k - 1, by omega⟩
  rw [wv_set, h, hj, show m - (k + 1) = j by omega, List.replicate_succ, List.set_append, if_neg (by omega), h1, Nat.sub_self, List.set_cons_zero, List.append_assoc]
  rfl
theorem or4 {a b c d : Int} (ha : 0 ≤ a ∧ a < 256) (hb : 0 ≤ b ∧ b < 256) (hc : 0 ≤ c ∧ c < 256) (hd : 0 ≤ d ∧ d < 256) :
    bits .or .u32 (bits .or .u32 (bits .or .u32 (IntKind.u32.wrap (a * 16777216)) (IntKind.u32.wrap (b * 65536))) (IntKind.u32.wrap (c * 256))) d = ((word4 a b c d : Nat) : Int) := by
  have wr : ∀ n : Int, 0 ≤ n → n < 2 ^ 32 → IntKind.u32.wrap n = n := wraps_u32
  rw [wr (a * 16777216) (by omega) (by omega), wr (b * 65536) (by omega) (by omega), wr (c * 256) (by omega) (by omega)]
  have j1 : bits .or .u32 (a * 16777216) (b * 65536) = a * 16777216 + b * 65536 := bits_join .u32 32 (by decide) wraps_u32 24 (a * 16777216) (b * 65536) (by omega) (by omega) (by omega) (by omega) (by omega) (by omega)
  have j2 : bits .or .u32 (a * 16777216 + b * 65536) (c * 256) = a * 16777216 + b * 65536 + c * 256 := bits_join .u32 32 (by decide) wraps_u32 16 (a * 16777216 + b * 65536) (c * 256) (by omega) (by omega) (by omega) (by omega) (by omega) (by omega)
  have j3 : bits .or .u32 (a * 16777216 + b * 65536 + c * 256) d = a * 16777216 + b * 65536 + c * 256 + d := bits_join .u32 32 (by decide) wraps_u32 8 (a * 16777216 + b * 65536 + c * 256) d (by omega) (by omega) (by omega) (by omega) (by omega) (by omega)
  rw [j1, j2, j3]
  unfold word4
  omega
theorem infoU32 : (Try.prog.info? 166).map (fun i => (i.zero, i.size, i.bytes)) = some (some (.int .u32 0), 1, 4) := by kernel_rfl

set_option maxHeartbeats 4000000 in
theorem words_any (A : Option Addr) (c m : Nat) (l : List Int) (w : World) (hr : RdI w .u8 A l) (hl : l.length = 4 * m) (hlc : l.length ≤ c) (hm : m ≤ 1000000) (hb : ∀ x ∈ l, 0 ≤ x ∧ x < 256) :
    Calls Try.prog 151 #[.slice A l.length c] w fun e w' => ∃ g, e = .returned (.tuple #[.slice (some ⟨g, 0, none⟩) m m, .int .i64 0]) ∧ w'.ownsRow w.heap.size 166 1 (.slice (some ⟨g, 0, none⟩) m m) m (wv (wordsN l)) ∧ Below w.heap.size w w' := by
  obtain ⟨i0, hi, hz0, hz1, hz2⟩ := info_parts infoU32
  have d1 : (l.length : Int) % 4 = 0 := by omega
  have d2 : (l.length : Int) / 4 = (m : Int) := by omega
  have HL := Lib.hid hl
  clear hl
  go_enter Try.func151, Try.ntmps151
  go_wp2_with (first
    | (at_make; refine wpList_make_full _ rfl _ _ 168 rfl w.heap.size 166 i0 (.int .u32 0) 1 Try.underlying168 hi hz0 hz1 .i64 .i64 _ _ m rfl rfl rfl rfl (by rw [hz2]; omega) (by unfold maxLen; omega) (Nat.le_refl _) ?_; intro w1 hown hg))
  have hown2 : w1.ownsRow w.heap.size 166 1 (.slice (some ⟨w.heap.size, 0, none⟩) m m) m (wv (wordsN (l.take (4 * 0)) ++ List.replicate (m - 0) 0)) := by
    have e : (madeCells (Value.int .u32 0).cells (m * 1)).toList = wv (wordsN (l.take (4 * 0)) ++ List.replicate (m - 0) 0) := by
      show (madeCells #[Value.int .u32 0] (m * 1)).toList = _
      rw [toList_madeCells_one]; simp [wv, wordsN]
    rw [← e]; exact hown
  clear hown
  go_loopw [17] (fun i wr => ∃ k : Nat, k ≤ m ∧ i = .int .i64 k ∧ wr.ownsRow w.heap.size 166 1 (.slice (some ⟨w.heap.size, 0, none⟩) m m) m (wv (wordsN (l.take (4 * k)) ++ List.replicate (m - k) 0)) ∧ Below w.heap.size w wr) (fun i _ => m - (intOf i).toNat)
  case atStart => exact ⟨0, Nat.zero_le _, rfl, hown2, bG (bR _) hg (fun k h => by cases h)⟩
  case round =>
    obtain ⟨k, hk, rfl, ho, hbl⟩ := hrel
    by_cases hlt : k < m
    · obtain ⟨ad, rfl, q0⟩ := (hr.below hbl).at_ (j := 4 * k) (by rw [HL.out]; omega)
      obtain ⟨ad', ha', q1⟩ := (hr.below hbl).at_ (j := 4 * k + 1) (by rw [HL.out]; omega)
      obtain rfl := Option.some.inj ha'
      obtain ⟨ad', ha', q2⟩ := (hr.below hbl).at_ (j := 4 * k + 2) (by rw [HL.out]; omega)
      obtain rfl := Option.some.inj ha'
      obtain ⟨ad', ha', q3⟩ := (hr.below hbl).at_ (j := 4 * k + 3) (by rw [HL.out]; omega)
      obtain rfl := Option.some.inj ha'
      rw [← add_add] at q1 q2 q3
      obtain ⟨pd, hpd⟩ : ∃ pd, ad.add (4 * k) = pd := ⟨_, rfl⟩
      rw [hpd] at q0 q1 q2 q3
      have hx0 := hb _ (getD_mem (show 4 * k < l.length by rw [HL.out]; omega))
      have hx1 := hb _ (getD_mem (show 4 * k + 1 < l.length by rw [HL.out]; omega))
      have hx2 := hb _ (getD_mem (show 4 * k + 2 < l.length by rw [HL.out]; omega))
      have hx3 := hb _ (getD_mem (show 4 * k + 3 < l.length by rw [HL.out]; omega))
      have HSN := Lib.hid (wordsN_snoc k l (by rw [HL.out]; omega))
      generalize l.getD (4 * k) 0 = x0 at *
      generalize l.getD (4 * k + 1) 0 = x1 at *
      generalize l.getD (4 * k + 2) 0 = x2 at *
      generalize l.getD (4 * k + 3) 0 = x3 at *
      have hck : ¬ c = 4 * k := by have := HL.out; omega
      have n1 : (4 * (k : Int)).toNat = 4 * k := by omega
      have n2 : (4 * (k : Int) + 4).toNat = 4 * k + 4 := by omega
      have n3 : (4 * (k : Int) + 4 : Int) ≤ (c : Int) := by have := HL.out; omega
      have hcell := ho.cellAt k (by omega)
      rw [show (wv (wordsN (l.take (4 * k)) ++ List.replicate (m - k) 0))[k]? = some (.int .u32 0) from words_at HL.out hlt] at hcell
      have hfr := ho.frozenAt k
      obtain ⟨y, hy⟩ : ∃ y, word4 x0 x1 x2 x3 = y := ⟨_, rfl⟩
      have X : bits .or .u32 (bits .or .u32 (bits .or .u32 (IntKind.u32.wrap (x0 * 16777216)) (IntKind.u32.wrap (x1 * 65536))) (IntKind.u32.wrap (x2 * 256))) x3 = (y : Int) := by rw [← hy]; exact or4 hx0 hx1 hx2 hx3
      have w0 : IntKind.u32.wrap x0 = x0 := wraps_u32 _ (by omega) (by omega)
      have w1' : IntKind.u32.wrap x1 = x1 := wraps_u32 _ (by omega) (by omega)
      have w2' : IntKind.u32.wrap x2 = x2 := wraps_u32 _ (by omega) (by omega)
      have w3' : IntKind.u32.wrap x3 = x3 := wraps_u32 _ (by omega) (by omega)
      have HO := Lib.hid (ho.stored k (.int .u32 (y : Int)))
      have HY := Lib.hid hy
      have r0 : ({ heap := wr.heap, tape := wr.tape, drawn := wr.drawn + 1, os := wr.os, output := wr.output } : World).cell? pd = some (.int .u8 x0) := q0
      have r1 : ({ heap := wr.heap, tape := wr.tape, drawn := wr.drawn + 1, os := wr.os, output := wr.output } : World).cell? ⟨pd.block, pd.off + 1, none⟩ = some (.int .u8 x1) := q1
      have r2 : ({ heap := wr.heap, tape := wr.tape, drawn := wr.drawn + 1, os := wr.os, output := wr.output } : World).cell? ⟨pd.block, pd.off + 2, none⟩ = some (.int .u8 x2) := q2
      have r3 : ({ heap := wr.heap, tape := wr.tape, drawn := wr.drawn + 1, os := wr.os, output := wr.output } : World).cell? ⟨pd.block, pd.off + 3, none⟩ = some (.int .u8 x3) := q3
      have s0 : wr.cell? pd = some (.int .u8 x0) := q0
      have s1 : wr.cell? ⟨pd.block, pd.off + 1, none⟩ = some (.int .u8 x1) := q1
      have s2 : wr.cell? ⟨pd.block, pd.off + 2, none⟩ = some (.int .u8 x2) := q2
      have s3 : wr.cell? ⟨pd.block, pd.off + 3, none⟩ = some (.int .u8 x3) := q3
      clear hy q0 q1 q2 q3
      go_wp2
      go_still_tail 25, (by kernel_rfl)
      go_wp2
      go_roundw
      case rel => exact ⟨k + 1, by omega, by go_num, by rw [← words_set HL.out hlt (by rw [HSN.out, HY.out])]; exact HO.out.1, bD (bS hbl (Nat.le_refl _))⟩
      case measure => simp [intOf]; omega
    · obtain rfl : k = m := by omega
      have ho' := ho
      rw [Nat.sub_self, List.replicate_zero, List.append_nil, List.take_of_length_le (by rw [HL.out]; exact Nat.le_refl _)] at ho'
      have HO := Lib.hid ho'
      clear ho ho' hown2 hg
      go_wp2
      go_ret2
      exact ⟨_, rfl, HO.out, hbl⟩

theorem bytesN_len : ∀ (l : List Nat), (bytesN l).length = 4 * l.length
  | [] => rfl
  | x :: t => by simp only [bytesN, List.length_append, List.length_cons, bytesN_len t, beW, List.length_nil]; omega
theorem bytesN_app : ∀ (l m : List Nat), bytesN (l ++ m) = bytesN l ++ bytesN m
  | [], m => rfl
  | x :: t, m => by simp only [List.cons_append, bytesN, bytesN_app t m, List.append_assoc]
theorem bytesN_snoc {l : List Nat} {k : Nat} (h : k < l.length) : bytesN (l.take (k + 1)) = bytesN (l.take k) ++ beW (l.getD k 0) := by
  rw [List.take_succ_eq_append_getElem h, bytesN_app]
  simp [bytesN, List.getD_eq_getElem?_getD, h]
theorem bytesN_byte : ∀ (l : List Nat), W32 l → ∀ x ∈ bytesN l, 0 ≤ x ∧ x < 256
  | [], _, x, h => by simp [bytesN] at h
  | y :: t, hw, x, h => by
    have hy := hw y (by simp)
    simp only [bytesN, List.mem_append, beW, List.mem_cons, List.not_mem_nil, or_false] at h
    rcases h with (rfl | rfl | rfl | rfl) | h
    · omega
    · omega
    · omega
    · omega
    · exact bytesN_byte t (fun z hz => hw z (by simp [hz])) x h
set_option maxHeartbeats 4000000 in
theorem bytes_any (A : Option Addr) (c : Nat) (l : List Nat) (w : World) (hr : RdI w .u32 A (l.map (fun n : Nat => (n : Int)))) (hl : l.length ≤ 1000000) (hb : W32 l) :
    Calls Try.prog 153 #[.slice A l.length c] w fun e w' => ∃ v, e = .returned v ∧ w'.ownsRow w.heap.size 5 1 v (bytesN l).length ((bytesN l).map (.int .u8)) ∧ Below w.heap.size w w' := by
  obtain ⟨i0, hi, hz0, hz1, hz2⟩ := info_parts infoB8
  have e4 : wrap64 (4 * (l.length : Int)) = 4 * (l.length : Int) := by unfold wrap64; omega
  go_enter Try.func153, Try.ntmps153
  go_wp2_with (first
    | (at_make; refine wpList_make_own _ rfl _ _ 24 rfl w.heap.size 5 i0 (.int .u8 0) 1 Try.underlying24 hi hz0 hz1 .i64 .i64 _ (4 * l.length) rfl rfl ?_ ?_ ?_ (Nat.le_refl _) ?_; (focus (simp)); (focus (rw [hz2]; omega)); (focus (unfold maxLen; omega)); intro w1 hown hg))
  go_loopw [3, 12] (fun v i wr => ∃ k : Nat, k ≤ l.length ∧ i = .int .i64 k ∧ wr.ownsRow w.heap.size 5 1 v (bytesN (l.take k)).length ((bytesN (l.take k)).map (.int .u8)) ∧ Below w.heap.size w wr) (fun _ i _ => l.length - (intOf i).toNat)
  case atStart => exact ⟨0, Nat.zero_le _, rfl, hown, bG (bR _) hg (fun k h => by cases h)⟩
  case round =>
    obtain ⟨k, hk, rfl, ho, hbl⟩ := hrel
    by_cases hlt : k < l.length
    · obtain ⟨ad, rfl, q0⟩ := (hr.below hbl).at_ (j := k) (by simpa using hlt)
      rw [show (l.map (fun n : Nat => (n : Int))).getD k 0 = ((l.getD k 0 : Nat) : Int) by simp [List.getD_eq_getElem?_getD, hlt]] at q0
      have hx := hb.at_ k
      have HSN := Lib.hid (bytesN_snoc hlt)
      have hlen : (bytesN (l.take k)).length ≤ 4000000 := by rw [bytesN_len, List.length_take]; omega
      generalize l.getD k 0 = x at *
      obtain ⟨D, hD⟩ : ∃ D, bytesN (l.take k) = D := ⟨_, rfl⟩
      rw [hD] at ho hlen
      have HD := Lib.hid hD
      obtain ⟨b0, hb0⟩ : ∃ y, (x : Int) / 16777216 = y := ⟨_, rfl⟩
      obtain ⟨b1, hb1⟩ : ∃ y, (x : Int) / 65536 % 256 = y := ⟨_, rfl⟩
      obtain ⟨b2, hb2⟩ : ∃ y, (x : Int) / 256 % 256 = y := ⟨_, rfl⟩
      obtain ⟨b3, hb3⟩ : ∃ y, (x : Int) % 256 = y := ⟨_, rfl⟩
      have HBE : Hid (beW x = [b0, b1, b2, b3]) := Lib.hid (by unfold beW; rw [hb0, hb1, hb2, hb3])
      have W0 : IntKind.u8.wrap ((x : Int) / 16777216) = b0 := by rw [IntKind.wrap_u8]; omega
      have W1 : IntKind.u8.wrap ((x : Int) / 65536) = b1 := by rw [IntKind.wrap_u8]; omega
      have W2 : IntKind.u8.wrap ((x : Int) / 256) = b2 := by rw [IntKind.wrap_u8]; omega
      have W3 : IntKind.u8.wrap (x : Int) = b3 := by rw [IntKind.wrap_u8]; omega
      have hown3 := own_ge ho
      have HOG := Lib.hid hown3
      have HR := Lib.hid (show ∀ (W : World) (t : TypeId), RdI (W.alloc (.cells #[.int .u8 b0, .int .u8 b1, .int .u8 b2, .int .u8 b3] t)) .u8 (some ⟨W.heap.size, 0, none⟩) [b0, b1, b2, b3] from fun W t => RdI.lit W .u8 [b0, b1, b2, b3] t)
      clear hD hb0 hb1 hb2 hb3 hown3 hown hg
      go_wp2_with (at_builtin; refine wpL_app (k := .u8) rfl _ _ 24 rfl w.heap.size 5 i0 (.int .u8 0) 1 Try.underlying24 hi hz0 hz1 hz2 rfl _ (D) rfl (ho.alloc _) _ _ ([b0, b1, b2, b3]) rfl (HR.out _ _) ?_ ?_ ?_ ?_; (focus (exact maxLen_ge (by simp; omega))); (focus ((simp; omega))); (focus (have := hbl.size; simp; omega)); intro v2 w2 ho2 hg2 _)
      have h2 := bG (bA hbl _) hg2 HOG.out
      have HO2 := Lib.hid ho2
      clear hg2 ho2
      go_wp2
      go_roundw
      case rel => exact ⟨k + 1, by omega, by go_num, by rw [HSN.out, HD.out, HBE.out]; exact HO2.out, h2⟩
      case measure => simp [intOf]; omega
    · have ho' := ho
      rw [List.take_of_length_le (by omega)] at ho'
      have HO := Lib.hid ho'
      clear ho ho' hown hg
      go_wp2
      go_ret
      exact ⟨_, rfl, HO.out, hbl⟩
end Go.Proofs.Ytiogogbkgekkdaa

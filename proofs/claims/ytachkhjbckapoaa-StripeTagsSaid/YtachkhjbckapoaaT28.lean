/- Layers 4 and 15: Cut, Digits and the stripe's tag. Layers 1, 4 and 15, the reference: numbers, cuts, digits, and the tag of a stripe. Condition: not more than some 700000 bytes. Layer 17, the plain facts: what was put is got again, and what was got is put as it was. Layer 18: the version from which a tag is known. Layer 18, plain: a reading as fifteen numbers, as fields, and back. Layer 19, plain: what a barcode says as bytes, and what bytes say. No condition. -/
import Derived.Test.YtachkhjbckapoaaT27
import Derived.Test.YtachkhjbckapoaaT18
import Derived.Test.YtachkhjbckapoaaT12
import Derived.Test.YtachkhjbckapoaaT13
import Derived.Test.YtachkhjbckapoaaT19
import Derived.Test.YtachkhjbckapoaaT20
import Derived.Test.YtachkhjbckapoaaT06
import Derived.Test.YtachkhjbckapoaaT14
namespace Go.Proofs.Ytachkhjbckapoaa
open Go.RowKit
set_option linter.unusedVariables false
set_option maxRecDepth 100000
set_option linter.unusedSimpArgs false

/-- The first four bytes, as a number. -/
def cutN (t : List Int) : Int := 256 * (256 * (256 * t.getD 0 0 + t.getD 1 0) + t.getD 2 0) + t.getD 3 0
theorem orN {a x : Int} {k : Nat} (h0 : 0 ≤ a) (h1 : a < 17179869184) (hk : k ≤ 24) (hx : 0 ≤ x ∧ x < 2 ^ k) : bits .or .i64 (a * 2 ^ k) x = a * 2 ^ k + x := by
  obtain ⟨n, rfl⟩ := Int.eq_ofNat_of_zero_le h0
  obtain ⟨m, rfl⟩ := Int.eq_ofNat_of_zero_le hx.1
  have hm : m < 2 ^ k := by have := hx.2; exact_mod_cast this
  have e : n * 2 ^ k + m = n * 2 ^ k ||| m := by
    have h := Nat.shiftLeft_add_eq_or_of_lt (i := k) (b := m) hm n
    rw [Nat.shiftLeft_eq] at h
    exact h
  have hp : 2 ^ k ≤ 2 ^ 24 := Nat.pow_le_pow_right (by decide) hk
  have hb : n * 2 ^ k < 2 ^ 63 := by
    have h2 : n < 17179869184 := by omega
    have h3 := Nat.mul_le_mul_left n hp
    omega
  have h3 : ((n : Int) * 2 ^ k) = ((n * 2 ^ k : Nat) : Int) := by push_cast; rfl
  rw [h3]
  have h4 := (bits_nat .i64 63 (by decide) wraps_i64 (n * 2 ^ k) m hb (by omega)).2
  rw [h4, ← e]
  push_cast
  rfl
theorem cut_or {a b c d : Int} (ha : 0 ≤ a ∧ a < 256) (hb : 0 ≤ b ∧ b < 256) (hc : 0 ≤ c ∧ c < 256) (hd : 0 ≤ d ∧ d < 256) :
    bits .or .i64 (bits .or .i64 (bits .or .i64 (a * 16777216) (b * 65536)) (c * 256)) d = 256 * (256 * (256 * a + b) + c) + d := by
  have p24 : (2 : Int) ^ 24 = 16777216 := by decide
  have p16 : (2 : Int) ^ 16 = 65536 := by decide
  have p8 : (2 : Int) ^ 8 = 256 := by decide
  have e1 := orN (a := a) (x := b * 65536) (k := 24) ha.1 (by omega) (by decide) ⟨by omega, by omega⟩
  have e2 := orN (a := a * 256 + b) (x := c * 256) (k := 16) (by omega) (by omega) (by decide) ⟨by omega, by omega⟩
  have e3 := orN (a := (a * 256 + b) * 256 + c) (x := d) (k := 8) (by omega) (by omega) (by decide) ⟨hd.1, by omega⟩
  rw [p24] at e1
  rw [p16] at e2
  rw [p8] at e3
  rw [e1, show a * 16777216 + b * 65536 = (a * 256 + b) * 65536 by omega, e2, show (a * 256 + b) * 65536 + c * 256 = ((a * 256 + b) * 256 + c) * 256 by omega, e3]
  omega
theorem cutN_le {t : List Int} (h : ∀ x ∈ t, 0 ≤ x ∧ x < 256) (hl : 4 ≤ t.length) : 0 ≤ cutN t ∧ cutN t ≤ 4294967295 := by
  unfold cutN
  have h0 := h _ (getD_mem (k := 0) (l := t) (by omega)); have h1 := h _ (getD_mem (k := 1) (l := t) (by omega)); have h2 := h _ (getD_mem (k := 2) (l := t) (by omega)); have h3 := h _ (getD_mem (k := 3) (l := t) (by omega))
  omega
set_option maxHeartbeats 1000000 in
theorem cut_any (T : List Int) (w : World) (hl : T.length = 32) (hb : ∀ x ∈ T, 0 ≤ x ∧ x < 256) :
    Calls Try.prog 54 #[.agg (bv T).toArray] w fun e w' => e = .returned (.int .i64 (cutN T)) ∧ Below w.heap.size w w' := by
  have h0 := hb _ (getD_mem (k := 0) (l := T) (by omega)); have h1 := hb _ (getD_mem (k := 1) (l := T) (by omega)); have h2 := hb _ (getD_mem (k := 2) (l := T) (by omega)); have h3 := hb _ (getD_mem (k := 3) (l := T) (by omega))
  have hA := heap_alloc_new w (.cells (bv T).toArray 42)
  have q0 := row_bv hA (j := 0) (by omega); have q1 := row_bv hA (j := 1) (by omega); have q2 := row_bv hA (j := 2) (by omega); have q3 := row_bv hA (j := 3) (by omega)
  have HC := Lib.hid (show bits .or .i64 (bits .or .i64 (bits .or .i64 (T.getD 0 0 * 16777216) (T.getD 1 0 * 65536)) (T.getD 2 0 * 256)) (T.getD 3 0) = cutN T from cut_or h0 h1 h2 h3)
  have hb1 := bel1 w (.cells (bv T).toArray 42)
  clear hb hl hA
  generalize cutN T = C at *
  generalize T.getD 0 0 = x0 at *
  generalize T.getD 1 0 = x1 at *
  generalize T.getD 2 0 = x2 at *
  generalize T.getD 3 0 = x3 at *
  go_enter Try.func54, Try.ntmps54
  go_wp2
  go_ret
  exact ⟨by rw [← HC.out] <;> rfl, hb1⟩

/-- Ten digits. -/
def dig10 (n : Int) : List Int := (List.range 10).map fun j => n / 10 ^ (9 - j) % 10
def dgK (n : Int) (k : Nat) : List Int := (List.range 10).map fun j => if 9 - j < k then n / 10 ^ (9 - j) % 10 else 0
theorem dgK_len (n : Int) (k : Nat) : (dgK n k).length = 10 := by simp [dgK]
theorem dig10_len (n : Int) : (dig10 n).length = 10 := by simp [dig10]
theorem dig10_9 (n : Int) : ∀ x ∈ dig10 n, 0 ≤ x ∧ x ≤ 9 := by
  intro x hx
  obtain ⟨j, _, rfl⟩ := List.mem_map.1 hx
  omega
theorem dgK_zero (n : Int) : dgK n 0 = List.replicate 10 0 := by simp [dgK, List.range_succ]
theorem dgK_end (n : Int) : dgK n 10 = dig10 n := by
  unfold dgK dig10
  refine List.map_congr_left fun j hj => ?_
  rw [if_pos (by omega)]
theorem dgK_at (n : Int) (k : Nat) {j : Nat} (h : j < 10) : (dgK n k)[j]? = some (if 9 - j < k then n / 10 ^ (9 - j) % 10 else 0) := by
  unfold dgK
  rw [List.getElem?_map, List.getElem?_range h]
  rfl
theorem dgK_step (n : Int) {k : Nat} (h : k < 10) : (dgK n k).set (9 - k) (n / 10 ^ k % 10) = dgK n (k + 1) := by
  refine List.ext_getElem? fun j => ?_
  rw [List.getElem?_set]
  by_cases hj : j < 10
  · rw [dgK_at n (k + 1) hj, dgK_at n k hj, dgK_len]
    by_cases e : 9 - k = j
    · rw [if_pos e, if_pos (by omega), if_pos (by omega), show 9 - j = k by omega]
    · rw [if_neg e]
      by_cases h2 : 9 - j < k
      · rw [if_pos h2, if_pos (by omega)]
      · rw [if_neg h2, if_neg (by omega)]
  · rw [if_neg (by omega), List.getElem?_eq_none (by rw [dgK_len]; omega), List.getElem?_eq_none (by rw [dgK_len]; omega)]
set_option maxHeartbeats 2000000 in
theorem digits10_any (n : Int) (w : World) (h0 : 0 ≤ n) (h1 : n ≤ 4294967295) :
    Calls Try.prog 53 #[.int .i64 n] w (ByteRetE (dig10 n, 0) w) := by
  obtain ⟨i0, hi, hz0, hz1, hz2⟩ := info_parts infoB8
  have d1 : decide (n < 0) = false := decide_eq_false (by omega)
  have d2 : decide ((4294967295 : Int) < n) = false := decide_eq_false (by omega)
  go_enter Try.func53, Try.ntmps53
  go_wp2_with (at_make; go_loud (refine wpList_make_full _ rfl _ _ 30 rfl w.heap.size 5 i0 (.int .u8 0) 1 Try.underlying30 hi hz0 hz1 .i64 .i64 _ _ 10 rfl rfl rfl rfl (by rw [hz2]; decide) (by unfold maxLen; decide) (Nat.le_refl _) ?_; intro w1 hown hg))
  have hown2 : w1.ownsRow w.heap.size 5 1 (.slice (some ⟨w.heap.size, 0, none⟩) 10 10) 10 (bv (dgK n 0)) := by
    have e : (madeCells (Value.int .u8 0).cells (10 * 1)).toList = bv (dgK n 0) := by
      show (madeCells #[Value.int .u8 0] (10 * 1)).toList = _
      rw [toList_madeCells_one, dgK_zero]; simp [bv]
    rw [← e]; exact hown
  clear hown
  go_loopw [0, 5, 13] (fun m _ i wr => ∃ k : Nat, k ≤ 10 ∧ i = .int .i64 k ∧ m = .int .i64 (n / 10 ^ k) ∧ wr.ownsRow w.heap.size 5 1 (.slice (some ⟨w.heap.size, 0, none⟩) 10 10) 10 (bv (dgK n k)) ∧ Below w.heap.size w wr) (fun _ _ i _ => 10 - (intOf i).toNat)
  case atStart => exact ⟨0, Nat.zero_le _, rfl, by simp, hown2, bG (bR _) hg (fun k h => by cases h)⟩
  case round =>
    obtain ⟨k, hk, rfl, rfl, ho, hbl⟩ := hrel
    by_cases hlt : k < 10
    · have HS := Lib.hid (dgK_step n hlt)
      have HQ := Lib.hid (show n / 10 ^ k / 10 = n / 10 ^ (k + 1) by rw [Int.ediv_ediv_of_nonneg (by exact Int.pow_nonneg (by decide)), Int.pow_succ])
      have hx0 : 0 ≤ n / 10 ^ k := Int.ediv_nonneg h0 (Int.pow_nonneg (by decide))
      have hx1 : n / 10 ^ k ≤ 4294967295 := Int.le_trans (Int.ediv_le_self _ h0) h1
      obtain ⟨j, hj⟩ : ∃ j, 9 - k = j := ⟨_, rfl⟩
      have hj10 : j < 10 := by omega
      have hcell := ho.cellAt j (by omega)
      rw [bv_at (by rw [dgK_len]; omega)] at hcell
      have hfr := ho.frozenAt j
      generalize n / 10 ^ k = x at *
      rw [hj] at HS
      have HO := Lib.hid (ho.stored j (.int .u8 (x % 10)))
      have ej : (9 : Int) - (k : Int) = (j : Int) := by omega
      have hw8 : IntKind.u8.wrap (x % 10) = x % 10 := by rw [IntKind.wrap_u8]; omega
      have j0 : (0 : Int) ≤ (j : Int) := by omega
      have j1 : (j : Int) < 10 := by omega
      clear hj
      go_wp2
      go_roundw
      case rel => exact ⟨k + 1, by omega, by go_num, by rw [HQ.out], by have h := HO.out.1; rw [bv_set, HS.out] at h; exact h, bS hbl (Nat.le_refl _)⟩
      case measure => simp [intOf]; omega
    · obtain rfl : k = 10 := by omega
      have HO := Lib.hid ho
      have HL := Lib.hid (dig10_len n)
      clear ho hown2 hg
      go_wp2
      go_ret2
      refine ⟨_, rfl, ?_, hbl⟩
      show wr.ownsRow _ _ 1 _ (dig10 n).length _
      rw [HL.out, ← dgK_end]
      exact HO.out
/-- The stripe's tag. -/
def tagS (s d : List Int) : List Int := dig10 (cutN (tagN s (83 :: d)))
theorem tagS_len (s d : List Int) : (tagS s d).length = 10 := dig10_len _
theorem tagS_9 (s d : List Int) : ∀ x ∈ tagS s d, 0 ≤ x ∧ x ≤ 9 := dig10_9 _
set_option maxHeartbeats 2000000 in
theorem sTag_any (A B : Option Addr) (c d : Nat) (s l : List Int) (w : World) (hr : RdI w .u8 A s) (hs : RdI w .u8 B l) (hsl : s.length ≤ 70368744177664) (hl : l.length ≤ 1000000) (hsb : ∀ x ∈ s, 0 ≤ x ∧ x < 256) (hlb : ∀ x ∈ l, 0 ≤ x ∧ x < 256) :
    Calls Try.prog 20 #[.slice A s.length c, .slice B l.length d] w (ByteRet (tagS s l) w) := by
  obtain ⟨i0, hi, hz0, hz1, hz2⟩ := info_parts infoB8
  have hM := fun B' c' W h1 h2 => macTag_len A B' c c' (l.length + 1) s (83 :: l) W (by simp) h1 h2 hsl (by omega) hsb (by
    intro x hx
    rcases List.mem_cons.1 hx with rfl | hx
    · omega
    · exact hlb x hx)
  have hTb := tagN_byte s (83 :: l)
  have hTl := tagN_len s (83 :: l)
  have hC := fun W => cut_any (tagN s (83 :: l)) W hTl hTb
  obtain ⟨g0, g1⟩ := cutN_le hTb (by omega)
  have HT := Lib.hid (show tagS s l = dig10 (cutN (tagN s (83 :: l))) from rfl)
  have hD := fun W => digits10_any (cutN (tagN s (83 :: l))) W g0 g1
  generalize cutN (tagN s (83 :: l)) = C at *
  generalize tagN s (83 :: l) = T at *
  generalize dig10 C = D at *
  clear g0 g1 hTb hTl hsb hlb
  have hl1 : 0 ≤ l.length := Nat.zero_le _
  go_enter Try.func20, Try.ntmps20
  go_wp2_with (first | (at_builtin; refine wpL_app (k := .u8) rfl _ _ 30 rfl w.heap.size 5 i0 (.int .u8 0) 1 Try.underlying30 hi hz0 hz1 hz2 rfl _ [83] rfl (own_lit1 w .u8 83 5) _ _ l rfl (hs.below (bel1 w _)) ?_ ?_ ?_ ?_; (focus (unfold maxLen; simp; omega)); (focus (simp; omega)); (focus simp); intro v3 w3 ho3 hg3 _; obtain ⟨A3, c3, rfl, _, _⟩ := own_slice ho3; have hb3 := bG (bel1 w _) hg3 (own_ge (own_lit1 w .u8 83 5)); have hr3 := hr.below hb3; have hrd := RdI.of_own ho3; clear ho3 hg3) | (go_at_call 50; (with_reducible refine (hM _ _ _ hr3 hrd).mono ?_); rintro e w4 ⟨rfl, hb4⟩) | (go_at_call 54; (with_reducible refine (hC _).mono ?_); rintro e w5 ⟨rfl, hb5⟩) | (go_at_call 53; (with_reducible refine (hD _).mono ?_); rintro e w6 ⟨v, rfl, ho6, hb6⟩))
  go_ret
  refine ⟨v, rfl, ?_, bT (bT (bT hb3 hb4) hb5) hb6⟩
  rw [HT.out]
  exact own_base ho6 (bT (bT hb3 hb4) hb5).size
end Go.Proofs.Ytachkhjbckapoaa

namespace Go.Proofs.Ytachkhjbckapoaa
open Go.RowKit
set_option linter.unusedVariables false
set_option maxRecDepth 100000
set_option linter.unusedSimpArgs false

theorem valN_snoc : ∀ (l : List Int) (x n : Int), valN (l ++ [x]) n = 256 * valN l n + x
  | [], x, n => rfl
  | y :: t, x, n => by rw [List.cons_append, valN_cons, valN_cons]; exact valN_snoc t x _
theorem valN_bd : ∀ (l : List Int) (n : Int) (k : Nat), (∀ x ∈ l, 0 ≤ x ∧ x < 256) → 0 ≤ n → n < 256 ^ k → 0 ≤ valN l n ∧ valN l n < 256 ^ (k + l.length)
  | [], n, k, _, h0, h1 => ⟨h0, h1⟩
  | y :: t, n, k, hb, h0, h1 => by
    have hy := hb y (by simp)
    have e : (256 : Int) ^ (k + 1) = 256 ^ k * 256 := Int.pow_succ _ _
    have h := valN_bd t (256 * n + y) (k + 1) (fun x hx => hb x (by simp [hx])) (by omega) (by rw [e]; omega)
    rw [valN_cons, List.length_cons, show k + (t.length + 1) = k + 1 + t.length by omega]
    exact h
theorem take_snocI {l : List Int} {k : Nat} (h : k < l.length) : l.take (k + 1) = l.take k ++ [l.getD k 0] := by
  rw [List.take_succ_eq_append_getElem h]; simp [List.getD_eq_getElem?_getD, h]
set_option maxHeartbeats 2000000 in
theorem refGet_any (A : Option Addr) (c n : Nat) (l : List Int) (w : World) (hn : l.length = n) (hr : RdI w .u8 A l) (h7 : n ≤ 7) (hb : ∀ x ∈ l, 0 ≤ x ∧ x < 256) :
    Calls Try.prog 97 #[.slice A n c] w fun e w' => e = .returned (.tuple #[.int .i64 (valN l 0), .int .i64 0]) ∧ w = w' := by
  have HN := Lib.hid hn
  have HR := Lib.hid hr
  have HB := Lib.hid hb
  clear hn hr hb
  have d8 : ((n : Int) == 8) = false := by simp; omega
  go_enter Try.func97, Try.ntmps97
  go_wp2
  go_loopw [4, 5] (fun v i wr => ∃ k : Nat, k ≤ n ∧ i = .int .i64 (k : Int) ∧ v = .int .i64 (valN (l.take k) 0) ∧ w = wr) (fun _ i _ => n - (intOf i).toNat)
  case atStart => exact ⟨0, Nat.zero_le _, rfl, rfl, rfl⟩
  case round =>
    obtain ⟨k, hk, rfl, rfl, rfl⟩ := hrel
    by_cases hlt : k < n
    · have k0 : (0 : Int) ≤ (k : Int) := by omega
      have k1 : (k : Int) < (n : Int) := by omega
      obtain ⟨ad, rfl, c0⟩ := HR.out.at_ (j := k) (by rw [HN.out]; exact hlt)
      have hx := HB.out _ (getD_mem (k := k) (by rw [HN.out]; exact hlt))
      have HS : Hid (valN (l.take (k + 1)) 0 = 256 * valN (l.take k) 0 + l.getD k 0) := Lib.hid (by rw [take_snocI (by rw [HN.out]; exact hlt), valN_snoc])
      have hbd := valN_bd (l.take k) 0 0 (fun x hx => HB.out x (List.mem_of_mem_take hx)) (by decide) (by decide)
      have hb2 : valN (l.take k) 0 < 281474976710656 := by
        refine Int.lt_of_lt_of_le hbd.2 ?_
        have hl : (l.take k).length ≤ 6 := by rw [List.length_take]; omega
        generalize (l.take k).length = z at hl
        have : z = 0 ∨ z = 1 ∨ z = 2 ∨ z = 3 ∨ z = 4 ∨ z = 5 ∨ z = 6 := by omega
        rcases this with rfl | rfl | rfl | rfl | rfl | rfl | rfl <;> decide
      have hb1 := hbd.1
      generalize valN (l.take k) 0 = m at *
      generalize l.getD k 0 = x at *
      have e1 : IntKind.i64.wrap (256 * m) = 256 * m := IntWalk.i64_in _ (by omega)
      have e2 : IntKind.i64.wrap (256 * m + x) = 256 * m + x := IntWalk.i64_in _ (by omega)
      obtain ⟨hx0, hx9⟩ := hx
      clear hbd hb2 hb1
      go_wp2
      go_roundw
      case rel => exact ⟨k + 1, by omega, by go_num, by rw [HS.out], by trivial⟩
      case measure => simp [intOf]; omega
    · have k1 : ¬ (k : Int) < (n : Int) := by omega
      have HE : Hid (valN (l.take k) 0 = valN l 0) := Lib.hid (by rw [List.take_of_length_le (by rw [HN.out]; omega)])
      go_wp2
      go_ret2
      exact ⟨by rw [HE.out] <;> rfl, rfl⟩
theorem cut_val {T : List Int} (h : 4 ≤ T.length) : valN (T.take 4) 0 = cutN T := by
  rcases T with _ | ⟨a, _ | ⟨b, _ | ⟨c, _ | ⟨d, t⟩⟩⟩⟩ <;> simp at h
  simp [valN, cutN]
set_option maxHeartbeats 1000000 in
theorem refCut_any (T : List Int) (w : World) (h : T.length = 32) (hb : ∀ x ∈ T, 0 ≤ x ∧ x < 256) :
    Calls Try.prog 56 #[.agg (bv T).toArray] w fun e w' => e = .returned (.int .i64 (cutN T)) ∧ Below w.heap.size w w' := by
  have HC := Lib.hid (cut_val (T := T) (by omega))
  have HR := Lib.hid ((rd_row (heap_alloc_new w (.cells (bv T).toArray 42))).take 4)
  have HB := Lib.hid (show ∀ x ∈ T.take 4, 0 ≤ x ∧ x < 256 from fun x hx => hb x (List.mem_of_mem_take hx))
  have HL := Lib.hid (show (T.take 4).length = 4 by rw [List.length_take]; omega)
  clear h hb
  go_enter Try.func56, Try.ntmps56
  go_wp2_with (go_at_call 97; (with_reducible refine (refGet_any _ _ 4 (T.take 4) _ HL.out HR.out (by decide) HB.out).mono ?_); rw [HC.out]; rintro e w1 ⟨rfl, rfl⟩)
  go_ret
  exact ⟨rfl, bel1 _ _⟩
theorem ten_div : ∀ k : Fin 10, (1000000000 : Int) / 10 ^ k.val = 10 ^ (9 - k.val) := by decide
theorem dig_snoc {n : Int} {k : Nat} (h : k < 10) : (dig10 n).take (k + 1) = (dig10 n).take k ++ [n / 10 ^ (9 - k) % 10] := by
  rw [take_snocI (by rw [dig10_len]; exact h)]
  congr 1
  simp [dig10, List.getD_eq_getElem?_getD, h]
set_option maxHeartbeats 2000000 in
theorem refDigits_any (n : Int) (w : World) (h0 : 0 ≤ n) (h9 : n ≤ 4294967295) :
    Calls Try.prog 55 #[.int .i64 n] w (ByteRetE (dig10 n, 0) w) := by
  obtain ⟨i0, hi, hz0, hz1, hz2⟩ := info_parts infoB8
  go_enter Try.func55, Try.ntmps55
  go_wp2
  have HO0 : Hid ((w.alloc (.cells #[] 5)).ownsRow w.heap.size 5 1 (.slice (some ⟨w.heap.size, 0, none⟩) 0 0) ((dig10 n).take 0).length (((dig10 n).take 0).map (.int .u8))) := Lib.hid (own_lit0 w 5 .u8)
  have HB0 := Lib.hid (bel1 w (.cells #[] 5))
  generalize w.alloc (.cells #[] 5) = w1 at *
  go_loopw [4, 5, 6] (fun v b i wr => ∃ (k : Nat) (d : Int), k ≤ 10 ∧ i = .int .i64 (k : Int) ∧ b = .int .i64 d ∧ Hid (d = 1000000000 / 10 ^ k) ∧ Hid (wr.ownsRow w.heap.size 5 1 v ((dig10 n).take k).length (((dig10 n).take k).map (.int .u8))) ∧ Hid (Below w.heap.size w wr)) (fun _ _ i _ => 10 - (intOf i).toNat)
  case atStart => exact ⟨0, _, Nat.zero_le _, rfl, rfl, Lib.hid rfl, HO0, HB0⟩
  case round =>
    clear HO0 HB0
    obtain ⟨k, d, hk, rfl, rfl, HD, HO, HB⟩ := hrel
    by_cases hlt : k < 10
    · have k1 : (k : Int) < 10 := by omega
      have hd := ten_div ⟨k, hlt⟩
      simp only at hd
      rw [← HD.out] at hd
      have hd0 : 0 < d := by rw [hd]; exact Int.pow_pos (by decide)
      have hd9 : d ≤ 1000000000 := by rw [HD.out]; exact Int.ediv_le_self _ (by decide)
      have HS : Hid ((dig10 n).take (k + 1) = (dig10 n).take k ++ [n / d % 10]) := Lib.hid (by rw [dig_snoc hlt, hd])
      have HD2 : Hid (d / 10 = 1000000000 / 10 ^ (k + 1)) := Lib.hid (by rw [HD.out, Int.pow_succ, Int.ediv_ediv_of_nonneg (Int.le_of_lt (Int.pow_pos (by decide)))])
      have hq0 : 0 ≤ n / d := Int.ediv_nonneg h0 (Int.le_of_lt hd0)
      have hq9 : n / d ≤ 4294967295 := Int.le_trans (Int.ediv_le_self _ h0) h9
      have e1 : n.tdiv d = n / d := Int.tdiv_eq_ediv_of_nonneg h0
      obtain ⟨q, hq⟩ : ∃ q, n / d = q := ⟨_, rfl⟩
      rw [hq] at HS hq0 hq9 e1
      obtain ⟨x, hx⟩ : ∃ x, q % 10 = x := ⟨_, rfl⟩
      rw [hx] at HS
      have hx2 : 0 ≤ x ∧ x < 10 := by omega
      obtain ⟨hx3, hx4⟩ := hx2
      have e2 : IntKind.i64.wrap q = q := IntWalk.i64_in _ (by omega)
      have dz : ¬ d = 0 := by omega
      have dz2 : (d == 0) = false := by simpa using dz
      have hlen : ((dig10 n).take k).length ≤ 10 := by rw [List.length_take]; omega
      have HL := Lib.hid hlen
      have HSZ := Lib.hid HB.out.size
      generalize (dig10 n).take k = D at *
      clear hd hlen
      go_wp2_with (at_builtin; go_loud (refine wpL_app (k := .u8) rfl _ _ 30 rfl w.heap.size 5 i0 (.int .u8 0) 1 Try.underlying30 hi hz0 hz1 hz2 rfl _ D rfl (HO.out.alloc _) _ _ [x] rfl (RdI.lit1 _ _ _ _) ?_ ?_ ?_ ?_; (focus (have := HL.out; refine maxLen_ge ?_; simp only [List.length_cons, List.length_nil]; omega)); (focus (have := HL.out; simp only [List.length_cons, List.length_nil]; omega)); (focus (have := HSZ.out; rw [World.size_alloc]; omega)); intro v3 w3 ho3 hg3 _; have HO3 := Lib.hid ho3; have HB3 := Lib.hid ((HB.out.alloc HSZ.out (.cells #[.int .u8 x] 5)).grown hg3 (by have := HSZ.out; rw [World.size_alloc]; omega) (own_ge HO.out)); clear ho3 hg3))
      go_roundw
      case rel => exact ⟨k + 1, d / 10, by omega, by go_num, rfl, HD2, Lib.hid (by rw [HS.out]; exact HO3.out), HB3⟩
      case measure => simp [intOf]; omega
    · obtain rfl : k = 10 := by omega
      have ho := HO.out
      rw [List.take_of_length_le (by rw [dig10_len]; exact Nat.le_refl _)] at ho
      have HE := Lib.hid ho
      clear ho HO
      simp only [Int.cast_ofNat_Int]
      go_wp2
      go_ret2
      exact ⟨_, rfl, HE.out, HB.out⟩
theorem cutN_bd {T : List Int} (h : 4 ≤ T.length) (hb : ∀ x ∈ T, 0 ≤ x ∧ x < 256) : 0 ≤ cutN T ∧ cutN T ≤ 4294967295 := by
  have h0 := hb _ (getD_mem (l := T) (k := 0) (by omega))
  have h1 := hb _ (getD_mem (l := T) (k := 1) (by omega))
  have h2 := hb _ (getD_mem (l := T) (k := 2) (by omega))
  have h3 := hb _ (getD_mem (l := T) (k := 3) (by omega))
  unfold cutN
  omega
set_option maxHeartbeats 2000000 in
theorem ref15Tag_any (A B : Option Addr) (c d : Nat) (s l : List Int) (w : World) (hr : RdI w .u8 A s) (hs : RdI w .u8 B l) (hsl : s.length ≤ 700000) (hsc : s.length ≤ c) (hl : l.length ≤ 700000) (hsb : ∀ x ∈ s, 0 ≤ x ∧ x < 256) (hlb : ∀ x ∈ l, 0 ≤ x ∧ x < 256) :
    Calls Try.prog 21 #[.slice A s.length c, .slice B l.length d] w fun e w' => (∃ Ac cc, e = .returned (.slice Ac 10 cc) ∧ RdI w' .u8 Ac (tagS s l)) ∧ Below w.heap.size w w' := by
  obtain ⟨i0, hi, hz0, hz1, hz2⟩ := info_parts infoB8
  have HO := Lib.hid (own_lit1 w .u8 83 5)
  have HS0 := Lib.hid (hs.below (bel1 w (.cells #[.int .u8 83] 5)))
  have HR := Lib.hid hr
  have HSC := Lib.hid hsc
  have HSB := Lib.hid hsb
  have HLB := Lib.hid (show ∀ x ∈ ([83] ++ l), 0 ≤ x ∧ x < 256 from fun x hx => by
    rcases List.mem_append.1 hx with h | h
    · simp at h; omega
    · exact hlb x h)
  obtain ⟨T, hT⟩ : ∃ T, tagN s ([83] ++ l) = T := ⟨_, rfl⟩
  have HTL : Hid (T.length = 32) := Lib.hid (by rw [← hT]; exact tagN_len _ _)
  have HTB : Hid (∀ x ∈ T, 0 ≤ x ∧ x < 256) := Lib.hid (by rw [← hT]; exact tagN_byte _ _)
  have HTE : Hid (tagS s l = dig10 (cutN T)) := Lib.hid (by rw [← hT]; rfl)
  have HT := Lib.hid hT
  have hcb := cutN_bd (T := T) (by rw [HTL.out]; decide) HTB.out
  have HCB := Lib.hid hcb
  clear hr hs hlb hsb hsc hT hcb
  go_enter Try.func21, Try.ntmps21
  go_wp2_with (at_builtin; go_loud (refine wpL_app (k := .u8) rfl (.tmp 9) (.tmp 10) 30 rfl w.heap.size 5 i0 (.int .u8 0) 1 Try.underlying30 hi hz0 hz1 hz2 rfl _ [(83 : Int)] rfl HO.out _ _ l rfl HS0.out ?_ ?_ ?_ ?_; (focus (refine maxLen_ge ?_; simp only [List.length_cons, List.length_nil]; omega)); (focus (simp only [List.length_cons, List.length_nil]; omega)); (focus (simp)); intro v5 w5 ho5 hg5 hk5; have HO5 := Lib.hid ho5; have HB5 := Lib.hid (show Below w.heap.size w w5 from (bel1 w _).grown hg5 (by simp) (own_ge HO.out)); clear ho5 hg5 hk5))
  obtain ⟨A5, c5, rfl, hc5, _⟩ := own_slice HO5.out
  have hr5 := RdI.of_own HO5.out
  refine (refTag3_any A A5 c c5 s ([83] ++ l) w5 (HR.out.below HB5.out) hr5 (by omega) HSC.out (by simp; omega) HSB.out HLB.out).mono ?_
  rw [HT.out]
  rintro e w6 ⟨rfl, hb6⟩
  have HB6 := Lib.hid (bT HB5.out hb6)
  clear hb6 hr5
  go_wp2_with fail
  refine (refCut_any T w6 HTL.out HTB.out).mono ?_
  rintro e w7 ⟨rfl, hb7⟩
  have HB7 := Lib.hid (bT HB6.out hb7)
  clear hb7
  go_wp2_with fail
  refine (refDigits_any (cutN T) w7 HCB.out.1 HCB.out.2).mono ?_
  rintro e w8 ⟨v8, rfl, ho8, hb8⟩
  rw [← HTE.out] at ho8
  obtain ⟨A8, c8, rfl, hc8, _⟩ := own_slice ho8
  have HR8 := Lib.hid (RdI.of_own ho8)
  have HB8 := Lib.hid (bT HB7.out hb8)
  have HL8 := Lib.hid (tagS_len s l)
  clear ho8 hb8
  simp only [HL8.out]
  go_wp2
  go_ret
  exact ⟨⟨A8, ⟨c8, rfl⟩, HR8.out⟩, HB8.out⟩
end Go.Proofs.Ytachkhjbckapoaa

namespace Go.Proofs.Ytachkhjbckapoaa
open Go.RowKit
set_option linter.unusedVariables false
set_option maxRecDepth 100000
set_option linter.unusedSimpArgs false

def tlvGo : Nat → Int → List Int → List Fd → List Fd × Int
  | 0, _, _, _ => ([], 14)
  | _ + 1, _, [], acc => (acc, 0)
  | _ + 1, _, [_], _ => ([], 14)
  | fuel + 1, last, a :: b :: t, acc => if a ≤ last then ([], 13) else if t.length < b.toNat then ([], 14) else tlvGo fuel a (t.drop b.toNat) (acc ++ [⟨a, t.take b.toNat⟩])
def tlvGet (q : List Int) : List Fd × Int := tlvGo (q.length + 1) 0 q []
theorem tlvGo_put : ∀ (l : List Fd) (last : Int) (fuel : Nat) (acc : List Fd), tlvB last l = true → (putF l).length < fuel → tlvGo fuel last (putF l) acc = (acc ++ l, 0)
  | [], last, fuel + 1, acc, h, hf => by simp [putF, tlvGo]
  | f :: l, last, 0, acc, h, hf => by omega
  | [], last, 0, acc, h, hf => by omega
  | f :: l, last, fuel + 1, acc, h, hf => by
    rw [tlvB_cons] at h
    by_cases g1 : f.tag ≤ last
    · rw [if_pos g1] at h; cases h
    rw [if_neg g1] at h
    by_cases g2 : 255 < f.tag
    · rw [if_pos g2] at h; cases h
    rw [if_neg g2] at h
    by_cases g3 : 255 < f.val.length
    · rw [if_pos g3] at h; cases h
    rw [if_neg g3] at h
    rw [putF_cons] at hf ⊢
    simp only [List.length_cons, List.length_append] at hf
    have ih := tlvGo_put l f.tag fuel (acc ++ [⟨f.tag, f.val⟩]) h (by omega)
    unfold tlvGo
    rw [if_neg g1, Int.toNat_natCast, if_neg (by simp), List.take_left, List.drop_left, ih]
    simp
/-- What was put is got again. -/
theorem tlvGet_put {l : List Fd} (h : tlvB 0 l = true) : tlvGet (putF l) = (l, 0) := by
  unfold tlvGet
  rw [tlvGo_put l 0 _ [] h (by omega)]
  simp
theorem tlvGo_ok : ∀ (fuel : Nat) (last : Int) (q : List Int) (acc l : List Fd), tlvGo fuel last q acc = (l, 0) → (∀ x ∈ q, 0 ≤ x ∧ x < 256) → ∃ m, l = acc ++ m ∧ putF m = q ∧ tlvB last m = true
  | 0, last, q, acc, l, h, hb => by simp [tlvGo] at h
  | fuel + 1, last, [], acc, l, h, hb => by simp [tlvGo] at h; exact ⟨[], by simp [h], rfl, rfl⟩
  | fuel + 1, last, [_], acc, l, h, hb => by simp [tlvGo] at h
  | fuel + 1, last, a :: b :: t, acc, l, h, hb => by
    have ha := hb a (by simp)
    have hbb := hb b (by simp)
    unfold tlvGo at h
    by_cases g1 : a ≤ last
    · rw [if_pos g1] at h; simp at h
    rw [if_neg g1] at h
    by_cases g2 : t.length < b.toNat
    · rw [if_pos g2] at h; simp at h
    rw [if_neg g2] at h
    obtain ⟨m, hm, hp, hq⟩ := tlvGo_ok fuel a _ _ l h (fun x hx => hb x (by simp [List.mem_of_mem_drop hx]))
    have hl : (t.take b.toNat).length = b.toNat := by rw [List.length_take]; omega
    refine ⟨⟨a, t.take b.toNat⟩ :: m, by simp [hm], ?_, ?_⟩
    · rw [putF_cons, hp]
      simp only [hl, List.take_append_drop]
      rw [show ((b.toNat : Nat) : Int) = b by omega]
    · rw [tlvB_cons, if_neg g1, if_neg (by show ¬ 255 < a; omega), if_neg (by show ¬ 255 < (t.take b.toNat).length; omega)]
      exact hq
/-- What was got is put as it was, and is fields. -/
theorem tlvPut_get {q : List Int} {l : List Fd} (h : tlvGet q = (l, 0)) (hb : ∀ x ∈ q, 0 ≤ x ∧ x < 256) : putF l = q ∧ tlvB 0 l = true := by
  obtain ⟨m, hm, hp, hq⟩ := tlvGo_ok _ 0 q [] l h hb
  simp at hm
  subst hm
  exact ⟨hp, hq⟩
end Go.Proofs.Ytachkhjbckapoaa

namespace Go.Proofs.Ytachkhjbckapoaa
open Go.RowKit
set_option linter.unusedVariables false
set_option maxRecDepth 100000
set_option linter.unusedSimpArgs false

/-- From which version on there is a tag; 0: never. -/
def nameE (t : Int) : Int := if t < 1 ∨ 13 < t then 0 else if t = 8 then 2 else if t = 9 then 3 else 1
def nameB (t : Int) : Bool := decide (1 ≤ t) && decide (t ≤ 13)
theorem name_any (t : Int) (w : World) : Calls Try.prog 74 #[.int .i64 t] w fun e w' => e = .returned (.tuple #[.int .i64 (nameE t), .bool (nameB t)]) ∧ w = w' := by
  by_cases h1 : t < 1
  · have E1 := Lib.hid (show nameE t = 0 by unfold nameE; rw [if_pos (.inl h1)])
    have E2 := Lib.hid (show nameB t = false by unfold nameB; rw [decide_eq_false (by omega)]; rfl)
    go_enter Try.func74, Try.ntmps74
    go_wp2
    go_ret2
    exact ⟨by rw [E1.out, E2.out] <;> rfl, rfl⟩
  by_cases h2 : 13 < t
  · have E1 := Lib.hid (show nameE t = 0 by unfold nameE; rw [if_pos (.inr h2)])
    have E2 := Lib.hid (show nameB t = false by unfold nameB; rw [decide_eq_false (p := t ≤ 13) (by omega), Bool.and_false])
    go_enter Try.func74, Try.ntmps74
    go_wp2
    go_ret2
    exact ⟨by rw [E1.out, E2.out] <;> rfl, rfl⟩
  have E2 := Lib.hid (show nameB t = true by unfold nameB; rw [decide_eq_true (by omega), decide_eq_true (by omega)]; rfl)
  by_cases h8 : t = 8
  · have E1 := Lib.hid (show nameE t = 2 by unfold nameE; rw [if_neg (by omega), if_pos h8])
    have hq : (t == 8) = true := by simpa using h8
    clear h8
    go_enter Try.func74, Try.ntmps74
    go_wp2
    go_ret2
    exact ⟨by rw [E1.out, E2.out] <;> rfl, rfl⟩
  have hq : (t == 8) = false := by simpa using h8
  by_cases h9 : t = 9
  · have E1 := Lib.hid (show nameE t = 3 by unfold nameE; rw [if_neg (by omega), if_neg h8, if_pos h9])
    have hq9 : (t == 9) = true := by simpa using h9
    clear h9
    go_enter Try.func74, Try.ntmps74
    go_wp2
    go_ret2
    exact ⟨by rw [E1.out, E2.out] <;> rfl, rfl⟩
  have E1 := Lib.hid (show nameE t = 1 by unfold nameE; rw [if_neg (by omega), if_neg h8, if_neg h9])
  have hq9 : (t == 9) = false := by simpa using h9
  go_enter Try.func74, Try.ntmps74
  go_wp2
  go_ret2
  exact ⟨by rw [E1.out, E2.out] <;> rfl, rfl⟩
end Go.Proofs.Ytachkhjbckapoaa

namespace Go.Proofs.Ytachkhjbckapoaa
open Go.RowKit
set_option linter.unusedVariables false
set_option maxRecDepth 100000
set_option linter.unusedSimpArgs false

def plcL : List Nat := [0, 14, 11, 1, 0, 2, 3, 4, 5, 6, 7, 8, 9, 10]
/-- Where the number of a tag stands. -/
def plc (tag : Int) : Nat := plcL.getD tag.toNat 0
def tkL (l : List Int) : Bool := tkB (l.getD 0 0) (l.getD 1 0) (l.getD 2 0) (l.getD 3 0) (l.getD 4 0) (l.getD 5 0) (l.getD 6 0) (l.getD 7 0) (l.getD 8 0) (l.getD 9 0) (l.getD 10 0)
def readB (l : List Int) : Bool := tkL l && (decide (0 ≤ l.getD 11 0) && decide (l.getD 11 0 < 100)) && (decide (l.getD 12 0 = 0) && decide (l.getD 13 0 = 0)) && (decide (1 ≤ l.getD 14 0) && decide (l.getD 14 0 ≤ 3))
def fpGo (l : List Int) : Nat → List Fd → List Fd × Int
  | 0, acc => (acc, 0)
  | n + 1, acc => if l.getD (plc (13 - n)) 0 = 0 then fpGo l n acc
    else if n = 1 ∧ l.getD 1 0 ≠ 4 then fpGo l n acc
    else if l.getD 14 0 < nameE (13 - n) then ([], 18)
    else fpGo l n (acc ++ [⟨13 - n, numL (l.getD (plc (13 - n)) 0)⟩])
/-- What fields.Put computes. -/
def fpE (l : List Int) : List Fd × Int := if readB l then fpGo l 13 [] else ([], 1)
theorem fpGo_succ (l : List Int) (n : Nat) (acc : List Fd) : fpGo l (n + 1) acc = if l.getD (plc (13 - n)) 0 = 0 then fpGo l n acc
    else if n = 1 ∧ l.getD 1 0 ≠ 4 then fpGo l n acc
    else if l.getD 14 0 < nameE (13 - n) then ([], 18)
    else fpGo l n (acc ++ [⟨13 - n, numL (l.getD (plc (13 - n)) 0)⟩]) := rfl

def zL : List Int := List.replicate 15 0
def fgGo : List Fd → List Int → Int → List Int × Int × Int
  | [], l, least => (l, least, 0)
  | f :: t, l, least => if 128 ≤ f.tag then (l, least, 16) else if nameB f.tag = false then (l, least, 15)
    else if (valE f.val).2 ≠ 0 then (l, least, (valE f.val).2) else fgGo t (l.set (plc f.tag) (valE f.val).1) (max least (nameE f.tag))
/-- What fields.Get says of the numbers that it has read. -/
def fgEnd (l : List Int) (least : Int) : List Int × Int :=
  if l.getD 14 0 < least ∨ 3 < l.getD 14 0 then (zL, 12)
  else if l.getD 1 0 = 4 then (if 100 ≤ l.getD 11 0 ∨ tkL l = false then (zL, 9) else (l, 0))
  else if l.getD 9 0 ≠ 0 then (zL, 9)
  else if 100 ≤ l.getD 11 0 ∨ tkL (l.set 9 (l.getD 1 0 % 3)) = false then (zL, 9) else (l.set 9 (l.getD 1 0 % 3), 0)
/-- What fields.Get computes. -/
def fgE (q : List Fd) : List Int × Int :=
  if tlvB 0 q then (if (fgGo q zL 1).2.2 ≠ 0 then (zL, (fgGo q zL 1).2.2) else fgEnd (fgGo q zL 1).1 (fgGo q zL 1).2.1) else (zL, 1)
theorem fgGo_cons (f : Fd) (t : List Fd) (l : List Int) (least : Int) : fgGo (f :: t) l least = if 128 ≤ f.tag then (l, least, 16) else if nameB f.tag = false then (l, least, 15)
    else if (valE f.val).2 ≠ 0 then (l, least, (valE f.val).2) else fgGo t (l.set (plc f.tag) (valE f.val).1) (max least (nameE f.tag)) := rfl

-- ---- numbers, and their least bytes
theorem strip_len : ∀ l : List Int, (strip l).length ≤ l.length
  | [] => Nat.le_refl _
  | x :: t => by
    rw [strip_cons]
    by_cases h : x = 0
    · rw [if_pos h]; have := strip_len t; simp; omega
    · rw [if_neg h]; exact Nat.le_refl _
theorem strip_head : ∀ l : List Int, (strip l).length ≠ 0 → (strip l).getD 0 0 ≠ 0
  | [], h => by simp [strip] at h
  | x :: t, h => by
    rw [strip_cons] at h ⊢
    by_cases g : x = 0
    · rw [if_pos g] at h ⊢; exact strip_head t h
    · rw [if_neg g]; simpa using g
theorem strip_mem : ∀ (l : List Int) (x : Int), x ∈ strip l → x ∈ l
  | [], x, h => by simp [strip] at h
  | y :: t, x, h => by
    rw [strip_cons] at h
    by_cases g : y = 0
    · rw [if_pos g] at h; exact List.mem_cons_of_mem _ (strip_mem t x h)
    · rw [if_neg g] at h; exact h
theorem valN_strip : ∀ l : List Int, valN (strip l) 0 = valN l 0
  | [] => rfl
  | x :: t => by
    rw [strip_cons]
    by_cases h : x = 0
    · rw [if_pos h, valN_strip t, h, valN_cons]; rfl
    · rw [if_neg h]
theorem strip_zeros (l : List Int) (h : l.getD 0 0 ≠ 0) : ∀ k, strip (List.replicate k 0 ++ l) = l
  | 0 => by
    cases l with
    | nil => simp at h
    | cons x t => simp at h; simp [strip_cons, h]
  | k + 1 => by rw [List.replicate_succ, List.cons_append, strip_cons, if_pos rfl]; exact strip_zeros l h k
theorem valN_dg8 {n : Int} (h0 : 0 ≤ n) (h1 : n < 18446744073709551616) : valN (dgB 8 n) 0 = n := by
  simp only [dgB, valN]
  omega
theorem dg8_head {n : Int} (h0 : 0 ≤ n) (h1 : n < 72057594037927936) : strip (dgB 8 n) = strip (dgB 7 n) := by
  rw [dgB_succ, strip_cons, if_pos (by omega)]
theorem numL_byte (n : Int) : ∀ x ∈ numL n, 0 ≤ x ∧ x < 256 := fun x h => dgB_byte n 8 x (strip_mem _ x h)
/-- A number's bytes say it. -/
theorem val_num {n : Int} (h0 : 0 < n) (h1 : n < 72057594037927936) : valE (numL n) = (n, 0) := by
  have e : valN (numL n) 0 = n := by unfold numL; rw [valN_strip, valN_dg8 (by omega) (by omega)]
  have hl : (numL n).length ≤ 7 := by unfold numL; rw [dg8_head (by omega) h1]; have := strip_len (dgB 7 n); rw [dgB_len] at this; exact this
  have hn : (numL n).length ≠ 0 := by
    intro h
    rw [List.eq_nil_of_length_eq_zero h] at e
    simp [valN] at e
    omega
  unfold valE
  rw [if_neg (by
    rintro (h | h | h)
    · omega
    · omega
    · exact strip_head (dgB 8 n) hn h), e]
theorem dgB_back : ∀ (l : List Int), (∀ x ∈ l, 0 ≤ x ∧ x < 256) → l.length ≤ 7 → ∀ n, n = valN l 0 → dgB 8 n = List.replicate (8 - l.length) 0 ++ l := by
  intro l hb hl n hn
  subst hn
  match l, hl with
  | [], _ => rfl
  | [a], _ =>
    have := hb a (by simp)
    simp only [valN, dgB, List.length_cons, List.length_nil, List.replicate, Nat.reduceAdd, Nat.reduceSub, List.cons_append, List.nil_append, List.cons.injEq, and_true]
    omega
  | [a, b], _ =>
    have := hb a (by simp); have := hb b (by simp)
    simp only [valN, dgB, List.length_cons, List.length_nil, List.replicate, Nat.reduceAdd, Nat.reduceSub, List.cons_append, List.nil_append, List.cons.injEq, and_true]
    omega
  | [a, b, c], _ =>
    have := hb a (by simp); have := hb b (by simp); have := hb c (by simp)
    simp only [valN, dgB, List.length_cons, List.length_nil, List.replicate, Nat.reduceAdd, Nat.reduceSub, List.cons_append, List.nil_append, List.cons.injEq, and_true]
    omega
  | [a, b, c, d], _ =>
    have := hb a (by simp); have := hb b (by simp); have := hb c (by simp); have := hb d (by simp)
    simp only [valN, dgB, List.length_cons, List.length_nil, List.replicate, Nat.reduceAdd, Nat.reduceSub, List.cons_append, List.nil_append, List.cons.injEq, and_true]
    omega
  | [a, b, c, d, e], _ =>
    have := hb a (by simp); have := hb b (by simp); have := hb c (by simp); have := hb d (by simp); have := hb e (by simp)
    simp only [valN, dgB, List.length_cons, List.length_nil, List.replicate, Nat.reduceAdd, Nat.reduceSub, List.cons_append, List.nil_append, List.cons.injEq, and_true]
    omega
  | [a, b, c, d, e, f], _ =>
    have := hb a (by simp); have := hb b (by simp); have := hb c (by simp); have := hb d (by simp); have := hb e (by simp); have := hb f (by simp)
    simp only [valN, dgB, List.length_cons, List.length_nil, List.replicate, Nat.reduceAdd, Nat.reduceSub, List.cons_append, List.nil_append, List.cons.injEq, and_true]
    omega
  | [a, b, c, d, e, f, g], _ =>
    have := hb a (by simp); have := hb b (by simp); have := hb c (by simp); have := hb d (by simp); have := hb e (by simp); have := hb f (by simp); have := hb g (by simp)
    simp only [valN, dgB, List.length_cons, List.length_nil, List.replicate, Nat.reduceAdd, Nat.reduceSub, List.cons_append, List.nil_append, List.cons.injEq, and_true]
    omega
  | _ :: _ :: _ :: _ :: _ :: _ :: _ :: _ :: _, h => simp only [List.length_cons] at h; omega
/-- Bytes that say a number are that number's. -/
theorem num_val {v : List Int} {n : Int} (h : valE v = (n, 0)) (hb : ∀ x ∈ v, 0 ≤ x ∧ x < 256) : numL n = v := by
  unfold valE at h
  by_cases g : v.length < 1 ∨ 7 < v.length ∨ v.getD 0 0 = 0
  · rw [if_pos g] at h; simp at h
  rw [if_neg g] at h
  have e : valN v 0 = n := by simpa using h
  unfold numL
  rw [dgB_back v hb (by omega) n e.symm, strip_zeros v (by omega)]
-- ---- put and got
theorem plc_lt (t : Int) (h1 : 1 ≤ t) (h2 : t ≤ 13) : plc t < 15 := by
  have : ∀ n : Fin 14, plcL.getD n.val 0 < 15 := by decide
  exact this ⟨t.toNat, by omega⟩
theorem plc_ne {s t : Int} (hs : 1 ≤ s ∧ s ≤ 13) (ht : 1 ≤ t ∧ t ≤ 13) (h : s ≠ t) : plc s ≠ plc t := by
  have : ∀ n m : Fin 14, n.val ≠ m.val → 1 ≤ n.val → 1 ≤ m.val → plcL.getD n.val 0 ≠ plcL.getD m.val 0 := by decide
  exact this ⟨s.toNat, by omega⟩ ⟨t.toNat, by omega⟩ (by show s.toNat ≠ t.toNat; omega) (by show 1 ≤ s.toNat; omega) (by show 1 ≤ t.toNat; omega)
theorem plc_no (t : Int) (h1 : 1 ≤ t) (h2 : t ≤ 13) : plc t ≠ 12 ∧ plc t ≠ 13 := by
  have : ∀ n : Fin 14, plcL.getD n.val 0 ≠ 12 ∧ plcL.getD n.val 0 ≠ 13 := by decide
  exact this ⟨t.toNat, by omega⟩
theorem getD_set_eq {l : List Int} {i : Nat} {v : Int} (h : i < l.length) : (l.set i v).getD i 0 = v := by simp [List.getD, h]
theorem getD_set_ne {l : List Int} {i j : Nat} {v : Int} (h : i ≠ j) : (l.set i v).getD j 0 = l.getD j 0 := by simp [List.getD, List.getElem?_set_ne h]
theorem nameB_of {t : Int} (h1 : 1 ≤ t) (h2 : t ≤ 13) : nameB t = true := by unfold nameB; simp [h1, h2]
theorem nameB_to {t : Int} (h : nameB t = true) : 1 ≤ t ∧ t ≤ 13 := by unfold nameB at h; simpa using h

/-- The number of a tag that fields.Put tells. -/
def pres (l : List Int) (t : Int) : Int := if t = 12 ∧ l.getD 1 0 ≠ 4 then 0 else l.getD (plc t) 0
theorem fp_fg : ∀ (n : Nat), n ≤ 13 → ∀ (l : List Int) (acc r : List Fd), fpGo l n acc = (r, 0) → (∀ t, 1 ≤ t → t ≤ 13 → 0 ≤ l.getD (plc t) 0 ∧ l.getD (plc t) 0 < 72057594037927936) →
    ∃ m, r = acc ++ m ∧ tlvB (13 - n) m = true ∧ ∀ (l0 : List Int) (least : Int), l0.length = 15 → (∀ t : Int, 13 - n < t → t ≤ 13 → l0.getD (plc t) 0 = 0) →
      ∃ l1 least1, fgGo m l0 least = (l1, least1, 0) ∧ l1.length = 15 ∧ (∀ t : Int, 1 ≤ t → t ≤ 13 - n → l1.getD (plc t) 0 = l0.getD (plc t) 0) ∧ (∀ t : Int, 13 - n < t → t ≤ 13 → l1.getD (plc t) 0 = pres l t) ∧ l1.getD 12 0 = l0.getD 12 0 ∧ l1.getD 13 0 = l0.getD 13 0 ∧ (least1 ≤ max least (l.getD 14 0))
  | 0, hn, l, acc, r, h, hr => by
    refine ⟨[], by simp [fpGo] at h; simp [h], rfl, fun l0 least hl hz => ⟨l0, least, rfl, hl, fun _ _ _ => rfl, fun t h1 h2 => by omega, rfl, rfl, by omega⟩⟩
  | n + 1, hn, l, acc, r, h, hr => by
    have ht1 : (1 : Int) ≤ 13 - n := by omega
    have ht2 : (13 : Int) - n ≤ 13 := by omega
    have htn : (13 : Int) - ((n + 1 : Nat) : Int) = 12 - n := by omega
    rw [fpGo_succ] at h
    have skip : pres l (13 - n) = 0 → fpGo l n acc = (r, 0) → ∃ m, r = acc ++ m ∧ tlvB (13 - ((n + 1 : Nat) : Int)) m = true ∧ ∀ (l0 : List Int) (least : Int), l0.length = 15 → (∀ t : Int, 13 - ((n + 1 : Nat) : Int) < t → t ≤ 13 → l0.getD (plc t) 0 = 0) →
      ∃ l1 least1, fgGo m l0 least = (l1, least1, 0) ∧ l1.length = 15 ∧ (∀ t : Int, 1 ≤ t → t ≤ 13 - ((n + 1 : Nat) : Int) → l1.getD (plc t) 0 = l0.getD (plc t) 0) ∧ (∀ t : Int, 13 - ((n + 1 : Nat) : Int) < t → t ≤ 13 → l1.getD (plc t) 0 = pres l t) ∧ l1.getD 12 0 = l0.getD 12 0 ∧ l1.getD 13 0 = l0.getD 13 0 ∧ (least1 ≤ max least (l.getD 14 0)) := by
      intro hp h
      obtain ⟨m, hm, hq, hk⟩ := fp_fg n (by omega) l acc r h hr
      refine ⟨m, hm, ?_, fun l0 least hl hz => ?_⟩
      · cases m with
        | nil => rfl
        | cons f t =>
          rw [tlvB_cons] at hq ⊢
          by_cases g : f.tag ≤ 13 - n
          · rw [if_pos g] at hq; cases hq
          · rw [if_neg g] at hq; rw [if_neg (by omega)]; exact hq
      · obtain ⟨l1, least1, e, hl1, ha, hb, hc, hd, hle⟩ := hk l0 least hl (fun t h1 h2 => hz t (by omega) h2)
        refine ⟨l1, least1, e, hl1, fun t h1 h2 => ha t h1 (by omega), fun t h1 h2 => ?_, hc, hd, hle⟩
        by_cases g : t = 13 - n
        · subst g; rw [ha _ ht1 (by omega), hz _ (by omega) ht2, hp]
        · exact hb t (by omega) h2
    by_cases g1 : l.getD (plc (13 - n)) 0 = 0
    · rw [if_pos g1] at h
      exact skip (by unfold pres; rw [g1]; simp) h
    rw [if_neg g1] at h
    by_cases g2 : n = 1 ∧ l.getD 1 0 ≠ 4
    · rw [if_pos g2] at h
      exact skip (by unfold pres; rw [if_pos ⟨by omega, g2.2⟩]) h
    rw [if_neg g2] at h
    by_cases g3 : l.getD 14 0 < nameE (13 - n)
    · rw [if_pos g3] at h; simp at h
    rw [if_neg g3] at h
    obtain ⟨m, hm, hq, hk⟩ := fp_fg n (by omega) l _ r h hr
    obtain ⟨hr1, hr2⟩ := hr _ ht1 ht2
    have hv := val_num (n := l.getD (plc (13 - n)) 0) (by omega) hr2
    have hpr : pres l (13 - n) = l.getD (plc (13 - n)) 0 := by unfold pres; rw [if_neg (fun h => g2 ⟨by omega, h.2⟩)]
    have hnl : (numL (l.getD (plc (13 - n)) 0)).length ≤ 7 := by
      unfold valE at hv
      by_cases g : (numL (l.getD (plc (13 - n)) 0)).length < 1 ∨ 7 < (numL (l.getD (plc (13 - n)) 0)).length ∨ (numL (l.getD (plc (13 - n)) 0)).getD 0 0 = 0
      · rw [if_pos g] at hv; simp at hv
      · omega
    refine ⟨⟨13 - n, numL (l.getD (plc (13 - n)) 0)⟩ :: m, by rw [hm, List.append_assoc]; rfl, ?_, fun l0 least hl hz => ?_⟩
    · rw [tlvB_cons, if_neg (by show ¬ (13 - (n : Int) ≤ 13 - ((n + 1 : Nat) : Int)); omega), if_neg (by show ¬ (255 < 13 - (n : Int)); omega), if_neg (by show ¬ 255 < (numL (l.getD (plc (13 - n)) 0)).length; omega)]
      exact hq
    · obtain ⟨l1, least1, e, hl1, ha, hb, hc, hd, hle⟩ := hk (l0.set (plc (13 - n)) (l.getD (plc (13 - n)) 0)) (max least (nameE (13 - n))) (by simpa using hl) (fun t h1 h2 => by
        rw [getD_set_ne (plc_ne ⟨ht1, ht2⟩ ⟨by omega, h2⟩ (by omega))]; exact hz t (by omega) h2)
      refine ⟨l1, least1, ?_, hl1, fun t h1 h2 => ?_, fun t h1 h2 => ?_, ?_, ?_, ?_⟩
      · rw [fgGo_cons, if_neg (by show ¬ (128 ≤ 13 - (n : Int)); omega), if_neg (by rw [show nameB (13 - (n : Int)) = true from nameB_of ht1 ht2]; simp)]
        simp only [hv]
        rw [if_neg (by simp)]
        exact e
      · rw [ha t h1 (by omega), getD_set_ne (plc_ne ⟨ht1, ht2⟩ ⟨h1, by omega⟩ (by omega))]
      · by_cases g : t = 13 - n
        · subst g; rw [ha _ ht1 (by omega), getD_set_eq (by rw [hl]; exact plc_lt _ ht1 ht2), hpr]
        · exact hb t (by omega) h2
      · rw [hc, getD_set_ne (plc_no _ ht1 ht2).1]
      · rw [hd, getD_set_ne (plc_no _ ht1 ht2).2]
      · omega
theorem valE_ok {v : List Int} (h : (valE v).2 = 0) (hb : ∀ x ∈ v, 0 ≤ x ∧ x < 256) : 0 < (valE v).1 ∧ (valE v).1 < 72057594037927936 ∧ v ≠ [] := by
  unfold valE at h ⊢
  by_cases g : v.length < 1 ∨ 7 < v.length ∨ v.getD 0 0 = 0
  · rw [if_pos g] at h; simp at h
  rw [if_neg g]
  show 0 < valN v 0 ∧ valN v 0 < 72057594037927936 ∧ v ≠ []
  match v, g, hb with
  | [], g, _ => simp at g
  | [a], g, hb => have := hb a (by simp); simp at g; simp only [valN]; exact ⟨by omega, by omega, by simp⟩
  | [a, b], g, hb => have := hb a (by simp); have := hb b (by simp); simp at g; simp only [valN]; exact ⟨by omega, by omega, by simp⟩
  | [a, b, c], g, hb => have := hb a (by simp); have := hb b (by simp); have := hb c (by simp); simp at g; simp only [valN]; exact ⟨by omega, by omega, by simp⟩
  | [a, b, c, d], g, hb => have := hb a (by simp); have := hb b (by simp); have := hb c (by simp); have := hb d (by simp); simp at g; simp only [valN]; exact ⟨by omega, by omega, by simp⟩
  | [a, b, c, d, e], g, hb => have := hb a (by simp); have := hb b (by simp); have := hb c (by simp); have := hb d (by simp); have := hb e (by simp); simp at g; simp only [valN]; exact ⟨by omega, by omega, by simp⟩
  | [a, b, c, d, e, f], g, hb => have := hb a (by simp); have := hb b (by simp); have := hb c (by simp); have := hb d (by simp); have := hb e (by simp); have := hb f (by simp); simp at g; simp only [valN]; exact ⟨by omega, by omega, by simp⟩
  | [a, b, c, d, e, f, k], g, hb => have := hb a (by simp); have := hb b (by simp); have := hb c (by simp); have := hb d (by simp); have := hb e (by simp); have := hb f (by simp); have := hb k (by simp); simp at g; simp only [valN]; exact ⟨by omega, by omega, by simp⟩
  | _ :: _ :: _ :: _ :: _ :: _ :: _ :: _ :: _, g, _ => simp at g

/-- What reading fields sets: nothing else, and what each field says. -/
theorem fg_keep : ∀ (q : List Fd) (last : Int) (l0 : List Int) (least : Int) (l1 : List Int) (least1 : Int), fgGo q l0 least = (l1, least1, 0) → tlvB last q = true → 0 ≤ last → l0.length = 15 → (∀ f ∈ q, ∀ x ∈ f.val, 0 ≤ x ∧ x < 256) →
    l1.length = 15 ∧ (∀ t, 1 ≤ t → t ≤ last → t ≤ 13 → l1.getD (plc t) 0 = l0.getD (plc t) 0) ∧ l1.getD 12 0 = l0.getD 12 0 ∧ l1.getD 13 0 = l0.getD 13 0 ∧ least ≤ least1 ∧ (∀ f ∈ q, 1 ≤ f.tag ∧ f.tag ≤ 13 ∧ last < f.tag ∧ nameE f.tag ≤ least1 ∧ numL (l1.getD (plc f.tag) 0) = f.val ∧ l1.getD (plc f.tag) 0 ≠ 0) ∧
      (∀ t, 1 ≤ t → t ≤ 13 → 0 ≤ l0.getD (plc t) 0 → 0 ≤ l1.getD (plc t) 0) ∧ (∀ t, 1 ≤ t → t ≤ 13 → (∀ f ∈ q, f.tag ≠ t) → l1.getD (plc t) 0 = l0.getD (plc t) 0)
  | [], last, l0, least, l1, least1, h, hq, h0, hl, hb => by
    simp [fgGo] at h
    obtain ⟨rfl, rfl⟩ := h
    exact ⟨hl, fun _ _ _ _ => rfl, rfl, rfl, Int.le_refl _, by simp, fun _ _ _ h => h, fun _ _ _ _ => rfl⟩
  | f :: q, last, l0, least, l1, least1, h, hq, h0, hl, hb => by
    rw [fgGo_cons] at h
    by_cases g1 : 128 ≤ f.tag
    · rw [if_pos g1] at h; simp at h
    rw [if_neg g1] at h
    by_cases g2 : nameB f.tag = false
    · rw [if_pos g2] at h; simp at h
    rw [if_neg g2] at h
    by_cases g3 : (valE f.val).2 ≠ 0
    · rw [if_pos g3] at h; simp only [Prod.mk.injEq] at h; exact absurd h.2.2 g3
    rw [if_neg g3] at h
    have g3' : (valE f.val).2 = 0 := by simpa using g3
    have g2' := nameB_to (by simpa using g2 : nameB f.tag = true)
    have hfb := hb f (by simp)
    obtain ⟨v0, v1, v2⟩ := valE_ok g3' hfb
    rw [tlvB_cons] at hq
    by_cases k1 : f.tag ≤ last
    · rw [if_pos k1] at hq; cases hq
    rw [if_neg k1] at hq
    by_cases k2 : 255 < f.tag
    · rw [if_pos k2] at hq; cases hq
    rw [if_neg k2] at hq
    by_cases k3 : 255 < f.val.length
    · rw [if_pos k3] at hq; cases hq
    rw [if_neg k3] at hq
    obtain ⟨a1, a2, a3, a4, a5, a6, a7, a8⟩ := fg_keep q f.tag _ _ l1 least1 h hq (by omega) (by simpa using hl) (fun x hx => hb x (by simp [hx]))
    have hset : l1.getD (plc f.tag) 0 = (valE f.val).1 := by rw [a2 _ g2'.1 (Int.le_refl _) g2'.2, getD_set_eq (by rw [hl]; exact plc_lt _ g2'.1 g2'.2)]
    refine ⟨a1, fun t h1 h2 h3 => ?_, ?_, ?_, by omega, fun x hx => ?_, fun t h1 h2 h3 => ?_, fun t h1 h2 h3 => ?_⟩
    · rw [a2 t h1 (by omega) h3, getD_set_ne (plc_ne g2' ⟨h1, h3⟩ (by omega))]
    · rw [a3, getD_set_ne (plc_no _ g2'.1 g2'.2).1]
    · rw [a4, getD_set_ne (plc_no _ g2'.1 g2'.2).2]
    · rcases List.mem_cons.1 hx with rfl | hx
      · refine ⟨g2'.1, g2'.2, by omega, by omega, ?_, by rw [hset]; omega⟩
        rw [hset]
        exact num_val (by rw [← g3']) hfb
      · obtain ⟨b1, b2, b3, b4, b5⟩ := a6 x hx
        exact ⟨b1, b2, by omega, b4, b5⟩
    · by_cases e : t = f.tag
      · subst e; rw [hset]; omega
      · exact a7 t h1 h2 (by rw [getD_set_ne (plc_ne g2' ⟨h1, h2⟩ (fun h => e h.symm))]; exact h3)
    · rw [a8 t h1 h2 (fun x hx => h3 x (by simp [hx])), getD_set_ne (plc_ne g2' ⟨h1, h2⟩ (h3 f (by simp)))]

/-- Fields that a reading's numbers agree with are those that it is put as. -/
theorem fp_of : ∀ (n : Nat), n ≤ 13 → ∀ (l : List Int) (q acc : List Fd), tlvB (13 - n) q = true → (∀ f ∈ q, f.tag ≤ 13 ∧ nameE f.tag ≤ l.getD 14 0 ∧ numL (l.getD (plc f.tag) 0) = f.val ∧ l.getD (plc f.tag) 0 ≠ 0 ∧ (f.tag = 12 → l.getD 1 0 = 4)) →
    (∀ t : Int, 13 - n < t → t ≤ 13 → (∀ f ∈ q, f.tag ≠ t) → pres l t = 0) → fpGo l n acc = (acc ++ q, 0)
  | 0, hn, l, q, acc, hq, hf, hz => by
    cases q with
    | nil => simp [fpGo]
    | cons f q =>
      have := (hf f (by simp)).1
      rw [tlvB_cons, if_pos (by omega)] at hq
      cases hq
  | n + 1, hn, l, q, acc, hq, hf, hz => by
    have htn : (13 : Int) - ((n + 1 : Nat) : Int) = 12 - n := by omega
    rw [htn] at hq
    have skip : (∀ f ∈ q, f.tag ≠ 13 - n) → tlvB (13 - n) q = true → fpGo l (n + 1) acc = (acc ++ q, 0) := by
      intro hne hq'
      have hp := hz (13 - n) (by omega) (by omega) hne
      have ih := fp_of n (by omega) l q acc hq' hf (fun t h1 h2 h3 => hz t (by omega) h2 h3)
      rw [fpGo_succ]
      by_cases g1 : l.getD (plc (13 - n)) 0 = 0
      · rw [if_pos g1]; exact ih
      · rw [if_neg g1]
        unfold pres at hp
        by_cases g2 : (13 - (n : Int)) = 12 ∧ l.getD 1 0 ≠ 4
        · rw [if_pos ⟨by omega, g2.2⟩]; exact ih
        · rw [if_neg g2] at hp; exact absurd hp g1
    cases q with
    | nil => exact skip (by simp) rfl
    | cons f q =>
      rw [tlvB_cons] at hq
      by_cases k1 : f.tag ≤ 12 - n
      · rw [if_pos k1] at hq; cases hq
      rw [if_neg k1] at hq
      by_cases k2 : 255 < f.tag
      · rw [if_pos k2] at hq; cases hq
      rw [if_neg k2] at hq
      by_cases k3 : 255 < f.val.length
      · rw [if_pos k3] at hq; cases hq
      rw [if_neg k3] at hq
      by_cases e : f.tag = 13 - n
      · obtain ⟨f1, f2, f3, f4, f5⟩ := hf f (by simp)
        rw [e] at hq f2 f3 f4 f5
        have hgt : ∀ (m : List Fd) (la : Int), tlvB la m = true → ∀ x ∈ m, la < x.tag := by
          intro m
          induction m with
          | nil => simp
          | cons y m ih =>
            intro la hm x hx
            rw [tlvB_cons] at hm
            by_cases j1 : y.tag ≤ la
            · rw [if_pos j1] at hm; cases hm
            rw [if_neg j1] at hm
            by_cases j2 : 255 < y.tag
            · rw [if_pos j2] at hm; cases hm
            rw [if_neg j2] at hm
            by_cases j3 : 255 < y.val.length
            · rw [if_pos j3] at hm; cases hm
            rw [if_neg j3] at hm
            rcases List.mem_cons.1 hx with rfl | hx
            · omega
            · have := ih y.tag hm x hx; omega
        have ih := fp_of n (by omega) l q (acc ++ [f]) hq (fun x hx => hf x (by simp [hx])) (fun t h1 h2 h3 => hz t (by omega) h2 (fun x hx => by
          rcases List.mem_cons.1 hx with rfl | hx
          · omega
          · exact h3 x hx))
        rw [fpGo_succ, if_neg f4, if_neg (fun h => h.2 (f5 (by omega))), if_neg (by omega), f3, ← e]
        rw [ih]
        simp
      · refine skip (fun x hx => ?_) ?_
        · rcases List.mem_cons.1 hx with rfl | hx
          · exact e
          · have hgt : ∀ (m : List Fd) (la : Int), tlvB la m = true → ∀ x ∈ m, la < x.tag := by
              intro m
              induction m with
              | nil => simp
              | cons y m ih =>
                intro la hm x hx
                rw [tlvB_cons] at hm
                by_cases j1 : y.tag ≤ la
                · rw [if_pos j1] at hm; cases hm
                rw [if_neg j1] at hm
                by_cases j2 : 255 < y.tag
                · rw [if_pos j2] at hm; cases hm
                rw [if_neg j2] at hm
                by_cases j3 : 255 < y.val.length
                · rw [if_pos j3] at hm; cases hm
                rw [if_neg j3] at hm
                rcases List.mem_cons.1 hx with rfl | hx
                · omega
                · have := ih y.tag hm x hx; omega
            have := hgt q f.tag hq x hx
            omega
        · rw [tlvB_cons, if_neg (by omega), if_neg k2, if_neg k3]; exact hq
-- ---- the whole of a reading
theorem tkL_facts {l : List Int} (h : tkL l = true) : (1 ≤ l.getD 0 0 ∧ l.getD 0 0 ≤ 1099511627776) ∧ (1 ≤ l.getD 1 0 ∧ l.getD 1 0 ≤ 4) ∧ (0 ≤ l.getD 2 0 ∧ l.getD 2 0 ≤ 39) ∧ (0 ≤ l.getD 3 0 ∧ l.getD 3 0 ≤ 39) ∧ (1 ≤ l.getD 4 0 ∧ l.getD 4 0 ≤ 2) ∧ (0 ≤ l.getD 5 0 ∧ l.getD 5 0 ≤ 3) ∧ (0 ≤ l.getD 6 0 ∧ l.getD 6 0 ≤ 999) ∧ (0 ≤ l.getD 7 0 ∧ l.getD 7 0 ≤ 99999) ∧ (1 ≤ l.getD 8 0 ∧ l.getD 8 0 ≤ 999) ∧ (0 ≤ l.getD 10 0 ∧ l.getD 10 0 ≤ 9) ∧
    (0 ≤ l.getD 9 0 ∧ l.getD 9 0 ≤ 20) ∧ (l.getD 1 0 ≠ 4 → l.getD 9 0 = l.getD 1 0 % 3) := by
  unfold tkL tkB at h
  generalize l.getD 0 0 = a0 at *
  generalize l.getD 1 0 = a1 at *
  generalize l.getD 2 0 = a2 at *
  generalize l.getD 3 0 = a3 at *
  generalize l.getD 4 0 = a4 at *
  generalize l.getD 5 0 = a5 at *
  generalize l.getD 6 0 = a6 at *
  generalize l.getD 7 0 = a7 at *
  generalize l.getD 8 0 = a8 at *
  generalize l.getD 9 0 = a9 at *
  generalize l.getD 10 0 = a10 at *
  simp only [Bool.and_eq_true, wB, decide_eq_true_eq] at h
  obtain ⟨⟨⟨⟨⟨⟨⟨⟨⟨⟨h0, h1⟩, h4⟩, h5⟩, h6⟩, h7⟩, h8⟩, _⟩, h10⟩, hp⟩, hu⟩ := h
  have hp2 : (0 ≤ a2 ∧ a2 ≤ 39) ∧ (0 ≤ a3 ∧ a3 ≤ 39) := by
    unfold placeB zonesB wayB at hp
    by_cases g : a1 = 3
    · rw [if_pos g] at hp; simp [wB] at hp; omega
    · rw [if_neg g] at hp; simp [wB] at hp; omega
  have hu2 : (0 ≤ a9 ∧ a9 ≤ 20) ∧ (a1 ≠ 4 → a9 = a1 % 3) := by
    unfold usesB at hu
    by_cases g1 : a1 = 1
    · rw [if_pos g1] at hu; simp at hu; omega
    rw [if_neg g1] at hu
    by_cases g2 : a1 = 2
    · rw [if_pos g2] at hu; simp at hu; omega
    rw [if_neg g2] at hu
    by_cases g3 : a1 = 3
    · rw [if_pos g3] at hu; simp at hu; omega
    rw [if_neg g3] at hu
    simp [wB] at hu
    omega
  exact ⟨h0, h1, hp2.1, hp2.2, h4, h5, h6, h7, h8, h10, hu2.1, hu2.2⟩
theorem tags13 {p : Int → Prop} (h1 : p 1) (h2 : p 2) (h3 : p 3) (h4 : p 4) (h5 : p 5) (h6 : p 6) (h7 : p 7) (h8 : p 8) (h9 : p 9) (h10 : p 10) (h11 : p 11) (h12 : p 12) (h13 : p 13) : ∀ t, 1 ≤ t → t ≤ 13 → p t := by
  intro t a b
  have : t = 1 ∨ t = 2 ∨ t = 3 ∨ t = 4 ∨ t = 5 ∨ t = 6 ∨ t = 7 ∨ t = 8 ∨ t = 9 ∨ t = 10 ∨ t = 11 ∨ t = 12 ∨ t = 13 := by omega
  rcases this with rfl | rfl | rfl | rfl | rfl | rfl | rfl | rfl | rfl | rfl | rfl | rfl | rfl <;> assumption
theorem ext15 {l m : List Int} (hl : l.length = 15) (hm : m.length = 15) (h12 : l.getD 12 0 = m.getD 12 0) (h13 : l.getD 13 0 = m.getD 13 0) (h : ∀ t, 1 ≤ t → t ≤ 13 → l.getD (plc t) 0 = m.getD (plc t) 0) : l = m := by
  have hj : ∀ j : Fin 15, l.getD j.val 0 = m.getD j.val 0 := by
    intro ⟨j, hj⟩
    have : j = 0 ∨ j = 1 ∨ j = 2 ∨ j = 3 ∨ j = 4 ∨ j = 5 ∨ j = 6 ∨ j = 7 ∨ j = 8 ∨ j = 9 ∨ j = 10 ∨ j = 11 ∨ j = 12 ∨ j = 13 ∨ j = 14 := by omega
    rcases this with rfl | rfl | rfl | rfl | rfl | rfl | rfl | rfl | rfl | rfl | rfl | rfl | rfl | rfl | rfl
    · exact h 4 (by omega) (by omega)
    · exact h 3 (by omega) (by omega)
    · exact h 5 (by omega) (by omega)
    · exact h 6 (by omega) (by omega)
    · exact h 7 (by omega) (by omega)
    · exact h 8 (by omega) (by omega)
    · exact h 9 (by omega) (by omega)
    · exact h 10 (by omega) (by omega)
    · exact h 11 (by omega) (by omega)
    · exact h 12 (by omega) (by omega)
    · exact h 13 (by omega) (by omega)
    · exact h 2 (by omega) (by omega)
    · exact h12
    · exact h13
    · exact h 1 (by omega) (by omega)
  refine List.ext_getElem (by omega) fun i h1 h2 => ?_
  have := hj ⟨i, by omega⟩
  simpa [List.getD, h1, h2] using this
theorem readB_facts {l : List Int} (h : readB l = true) : tkL l = true ∧ (0 ≤ l.getD 11 0 ∧ l.getD 11 0 < 100) ∧ (l.getD 12 0 = 0 ∧ l.getD 13 0 = 0) ∧ (1 ≤ l.getD 14 0 ∧ l.getD 14 0 ≤ 3) := by
  unfold readB at h
  simp only [Bool.and_eq_true, decide_eq_true_eq] at h
  exact ⟨h.1.1.1, h.1.1.2, h.1.2, h.2⟩
theorem readB_mk {l : List Int} (h : tkL l = true ∧ (0 ≤ l.getD 11 0 ∧ l.getD 11 0 < 100) ∧ (l.getD 12 0 = 0 ∧ l.getD 13 0 = 0) ∧ (1 ≤ l.getD 14 0 ∧ l.getD 14 0 ≤ 3)) : readB l = true := by
  unfold readB
  simp only [Bool.and_eq_true, decide_eq_true_eq]
  exact ⟨⟨⟨h.1, h.2.1⟩, h.2.2.1⟩, h.2.2.2⟩
theorem nums_bound {l : List Int} (h : readB l = true) : ∀ t, 1 ≤ t → t ≤ 13 → 0 ≤ l.getD (plc t) 0 ∧ l.getD (plc t) 0 < 72057594037927936 := by
  obtain ⟨ht, hk, hj, hv⟩ := readB_facts h
  obtain ⟨h0, h1, h2, h3, h4, h5, h6, h7, h8, h10, h9, _⟩ := tkL_facts ht
  exact tags13 (show 0 ≤ l.getD 14 0 ∧ l.getD 14 0 < _ by omega) (show 0 ≤ l.getD 11 0 ∧ l.getD 11 0 < _ by omega) (show 0 ≤ l.getD 1 0 ∧ l.getD 1 0 < _ by omega) (show 0 ≤ l.getD 0 0 ∧ l.getD 0 0 < _ by omega) (show 0 ≤ l.getD 2 0 ∧ l.getD 2 0 < _ by omega) (show 0 ≤ l.getD 3 0 ∧ l.getD 3 0 < _ by omega) (show 0 ≤ l.getD 4 0 ∧ l.getD 4 0 < _ by omega) (show 0 ≤ l.getD 5 0 ∧ l.getD 5 0 < _ by omega) (show 0 ≤ l.getD 6 0 ∧ l.getD 6 0 < _ by omega) (show 0 ≤ l.getD 7 0 ∧ l.getD 7 0 < _ by omega) (show 0 ≤ l.getD 8 0 ∧ l.getD 8 0 < _ by omega) (show 0 ≤ l.getD 9 0 ∧ l.getD 9 0 < _ by omega) (show 0 ≤ l.getD 10 0 ∧ l.getD 10 0 < _ by omega)
/-- What was put as fields is got again. -/
theorem fields_back {l : List Int} {q : List Fd} (hl : l.length = 15) (h : fpE l = (q, 0)) : readB l = true ∧ tlvB 0 q = true ∧ fgE q = (l, 0) := by
  unfold fpE at h
  by_cases hr : ¬ readB l = true
  · rw [if_neg hr] at h; simp at h
  have hr := Classical.not_not.1 hr
  rw [if_pos hr] at h
  obtain ⟨m, hm, hq, hk⟩ := fp_fg 13 (Nat.le_refl _) l [] q h (nums_bound hr)
  obtain rfl : q = m := by simpa using hm
  have hq0 : tlvB 0 q = true := hq
  obtain ⟨l1, least1, e, hl1, _, hb, hc, hd, hle⟩ := hk zL 1 rfl (fun t h1 h2 => (tags13 rfl rfl rfl rfl rfl rfl rfl rfl rfl rfl rfl rfl rfl : ∀ t, 1 ≤ t → t ≤ 13 → zL.getD (plc t) 0 = 0) t (by have h1 : (0 : Int) < t := h1; omega) h2)
  obtain ⟨ht, hky, hj, hv⟩ := readB_facts hr
  have hu := (tkL_facts ht).2.2.2.2.2.2.2.2.2.2.2
  have hb' : ∀ t, 1 ≤ t → t ≤ 13 → l1.getD (plc t) 0 = pres l t := fun t h1 h2 => hb t (by show (0 : Int) < t; omega) h2
  have pe : ∀ t, t ≠ 12 → pres l t = l.getD (plc t) 0 := fun t ht => by unfold pres; rw [if_neg (fun h => ht h.1)]
  have e14 : l1.getD 14 0 = l.getD 14 0 := (hb' 1 (by omega) (by omega)).trans (pe 1 (by omega))
  have e1 : l1.getD 1 0 = l.getD 1 0 := (hb' 3 (by omega) (by omega)).trans (pe 3 (by omega))
  have e11 : l1.getD 11 0 = l.getD 11 0 := (hb' 2 (by omega) (by omega)).trans (pe 2 (by omega))
  have e9 : l1.getD 9 0 = pres l 12 := hb' 12 (by omega) (by omega)
  refine ⟨hr, hq0, ?_⟩
  unfold fgE
  rw [if_pos hq0, e]
  simp only
  rw [if_neg (by simp)]
  unfold fgEnd
  rw [if_neg (by rw [e14]; omega), e1]
  by_cases g : l.getD 1 0 = 4
  · have hL : l1 = l := ext15 hl1 hl (by rw [hc, hj.1]; rfl) (by rw [hd, hj.2]; rfl) (fun t h1 h2 => by
      rw [hb' t h1 h2]
      by_cases e12 : t = 12
      · subst e12; unfold pres; rw [if_neg (fun h => h.2 g)]
      · exact pe t e12)
    rw [if_pos g, hL, if_neg (by rintro (h | h) <;> first | omega | (rw [ht] at h; cases h))]
  · have e90 : l1.getD 9 0 = 0 := by rw [e9]; unfold pres; rw [if_pos ⟨rfl, g⟩]
    have hL : l1.set 9 (l.getD 1 0 % 3) = l := ext15 (by simpa using hl1) hl (by rw [getD_set_ne (by omega), hc, hj.1]; rfl) (by rw [getD_set_ne (by omega), hd, hj.2]; rfl) (fun t h1 h2 => by
      by_cases e12 : t = 12
      · subst e12; rw [show plc 12 = 9 from rfl, getD_set_eq (by omega), hu g]
      · rw [getD_set_ne (by rw [show 9 = plc 12 from rfl]; exact plc_ne ⟨by omega, by omega⟩ ⟨h1, h2⟩ (fun h => e12 h.symm)), hb' t h1 h2, pe t e12])
    rw [if_neg g, if_neg (by omega), hL, if_neg (by rintro (h | h) <;> first | omega | (rw [ht] at h; cases h))]
/-- What was got of fields is put as they were. -/
theorem fields_one {l : List Int} {q : List Fd} (h : fgE q = (l, 0)) (hb : ∀ f ∈ q, ∀ x ∈ f.val, 0 ≤ x ∧ x < 256) : l.length = 15 ∧ readB l = true ∧ fpE l = (q, 0) := by
  unfold fgE at h
  by_cases hq : ¬ tlvB 0 q = true
  · rw [if_neg hq] at h; simp at h
  have hq := Classical.not_not.1 hq
  rw [if_pos hq] at h
  obtain ⟨l1, least1, er⟩ : ∃ l1 least1, (fgGo q zL 1) = (l1, least1, (fgGo q zL 1).2.2) := ⟨_, _, rfl⟩
  by_cases he : (fgGo q zL 1).2.2 ≠ 0
  · rw [if_pos he] at h; simp only [Prod.mk.injEq] at h; exact absurd h.2 he
  rw [if_neg he] at h
  have he' : (fgGo q zL 1).2.2 = 0 := by simpa using he
  rw [he'] at er
  rw [er] at h
  simp only at h
  obtain ⟨hl1, _, h12, h13, hle, hfs, hpos, hoff⟩ := fg_keep q 0 zL 1 l1 least1 er hq (by omega) rfl hb
  have h12' : l1.getD 12 0 = 0 := h12
  have h13' : l1.getD 13 0 = 0 := h13
  unfold fgEnd at h
  by_cases g1 : l1.getD 14 0 < least1 ∨ 3 < l1.getD 14 0
  · rw [if_pos g1] at h; simp at h
  rw [if_neg g1] at h
  have zp : ∀ t, 1 ≤ t → t ≤ 13 → zL.getD (plc t) 0 = 0 := tags13 rfl rfl rfl rfl rfl rfl rfl rfl rfl rfl rfl rfl rfl
  by_cases g2 : l1.getD 1 0 = 4
  · rw [if_pos g2] at h
    by_cases g3 : 100 ≤ l1.getD 11 0 ∨ tkL l1 = false
    · rw [if_pos g3] at h; simp at h
    rw [if_neg g3] at h
    obtain rfl : l1 = l := by simpa using h
    have hr : readB l1 = true := readB_mk ⟨by cases ht : tkL l1 <;> simp_all, ⟨hpos 2 (by omega) (by omega) (by rw [zp 2 (by omega) (by omega)]; omega), by omega⟩, ⟨h12', h13'⟩, by omega⟩
    refine ⟨hl1, hr, ?_⟩
    unfold fpE
    rw [if_pos hr, fp_of 13 (Nat.le_refl _) l1 q [] hq (fun f hf => by obtain ⟨a1, a2, a3, a4, a5, a6⟩ := hfs f hf; exact ⟨a2, by omega, a5, a6, fun _ => g2⟩) (fun t h1 h2 h3 => by
      have h1' : 1 ≤ t := by have h1 : (0 : Int) < t := h1; omega
      unfold pres
      rw [if_neg (fun h => h.2 g2), hoff t h1' h2 h3, zp t h1' h2])]
    rfl
  · rw [if_neg g2] at h
    by_cases g4 : l1.getD 9 0 ≠ 0
    · rw [if_pos g4] at h; simp at h
    rw [if_neg g4] at h
    by_cases g3 : 100 ≤ l1.getD 11 0 ∨ tkL (l1.set 9 (l1.getD 1 0 % 3)) = false
    · rw [if_pos g3] at h; simp at h
    rw [if_neg g3] at h
    obtain rfl : l1.set 9 (l1.getD 1 0 % 3) = l := by simpa using h
    have k : ∀ j, j ≠ 9 → (l1.set 9 (l1.getD 1 0 % 3)).getD j 0 = l1.getD j 0 := fun j hj => getD_set_ne (fun h => hj h.symm)
    have hr : readB (l1.set 9 (l1.getD 1 0 % 3)) = true := readB_mk ⟨by cases ht : tkL (l1.set 9 (l1.getD 1 0 % 3)) <;> simp_all, by rw [k 11 (by omega)]; exact ⟨hpos 2 (by omega) (by omega) (by rw [zp 2 (by omega) (by omega)]; omega), by omega⟩, by rw [k 12 (by omega), k 13 (by omega)]; exact ⟨h12', h13'⟩, by rw [k 14 (by omega)]; omega⟩
    refine ⟨by simpa using hl1, hr, ?_⟩
    unfold fpE
    have no12 : ∀ f ∈ q, f.tag ≠ 12 := fun f hf e => by
      obtain ⟨a1, a2, a3, a4, a5, a6⟩ := hfs f hf
      rw [e] at a6
      exact a6 (Classical.not_not.1 g4)
    rw [if_pos hr, fp_of 13 (Nat.le_refl _) _ q [] hq (fun f hf => by
      obtain ⟨a1, a2, a3, a4, a5, a6⟩ := hfs f hf
      have hp : plc f.tag ≠ 9 := by rw [show 9 = plc 12 from rfl]; exact plc_ne ⟨a1, a2⟩ ⟨by omega, by omega⟩ (no12 f hf)
      rw [k _ hp, k 14 (by omega)]
      exact ⟨a2, by omega, a5, a6, fun e => absurd e (no12 f hf)⟩) (fun t h1 h2 h3 => by
      have h1' : 1 ≤ t := by have h1 : (0 : Int) < t := h1; omega
      unfold pres
      by_cases e12 : t = 12
      · rw [if_pos ⟨e12, by rw [k 1 (by omega)]; exact g2⟩]
      · have hp : plc t ≠ 9 := by rw [show 9 = plc 12 from rfl]; exact plc_ne ⟨h1', h2⟩ ⟨by omega, by omega⟩ e12
        rw [if_neg (fun h => e12 h.1), k _ hp, hoff t h1' h2 h3, zp t h1' h2])]
    rfl
end Go.Proofs.Ytachkhjbckapoaa

namespace Go.Proofs.Ytachkhjbckapoaa
open Go.RowKit
set_option linter.unusedVariables false
set_option maxRecDepth 100000
set_option linter.unusedSimpArgs false

def encF (ks : List Ky) (l : List Int) : List Fd × Int := if ringB ks then fpE l else ([], 1)
/-- What barcode.Encode computes. -/
def encE (ks : List Ky) (l : List Int) : List Int × Int :=
  if (encF ks l).2 ≠ 0 then ([], (encF ks l).2) else match findE ks (l.getD 11 0) with
    | (none, e) => ([], e)
    | (some k, _) => if (putE17 (encF ks l).1).2 ≠ 0 then ([], (putE17 (encF ks l).1).2) else (fortyPut (putF (encF ks l).1 ++ tagN k.sec (66 :: putF (encF ks l).1)), 0)
/-- What barcode.open computes: the body, the tag, the fields; the error. -/
def openE (s : List Int) : (List Int × List Int × List Fd) × Int :=
  if (fortyGet s).2 ≠ 0 then (([], [], []), (fortyGet s).2)
  else if (fortyGet s).1.length < 32 then (([], [], []), 14)
  else (((fortyGet s).1.take ((fortyGet s).1.length - 32), (fortyGet s).1.drop ((fortyGet s).1.length - 32), (tlvGet ((fortyGet s).1.take ((fortyGet s).1.length - 32))).1), (tlvGet ((fortyGet s).1.take ((fortyGet s).1.length - 32))).2)
/-- What a body, a tag and fields say. -/
def decF (ks : List Ky) (bd tg : List Int) (q : List Fd) : List Int × Int :=
  if (fgE q).2 ≠ 0 then (zL, (fgE q).2)
  else match findE ks ((fgE q).1.getD 11 0) with
    | (none, e) => (zL, e)
    | (some k, _) => if (tg == tagN k.sec (66 :: bd)) = true then ((fgE q).1, 0) else (zL, 11)
/-- What barcode.Decode computes. -/
def decE (ks : List Ky) (s : List Int) : List Int × Int :=
  if ringB ks = false then (zL, 1)
  else if (openE s).2 ≠ 0 then (zL, (openE s).2)
  else decF ks (openE s).1.1 (openE s).1.2.1 (openE s).1.2.2
/-- What barcode.Version computes. -/
def verF (l : List Fd) : Int × Int := match l with
  | [] => (0, 12)
  | f :: _ => if f.tag ≠ 1 ∨ f.val.length ≠ 1 ∨ f.val.getD 0 0 < 1 ∨ 3 < f.val.getD 0 0 then (0, 12) else (f.val.getD 0 0, 0)
def verW (s : List Int) : Int × Int := if (openE s).2 ≠ 0 then (0, (openE s).2) else verF (openE s).1.2.2
end Go.Proofs.Ytachkhjbckapoaa

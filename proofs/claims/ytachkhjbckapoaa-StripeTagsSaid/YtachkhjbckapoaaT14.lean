/- Layer 10: a character's bits. Layer 11: the bits of a value's character, and a check value. Layer 16, the plain facts: bytes as signs of 45, two bytes as three signs; what was put is got again, and what was got is put as it was. Layer 16: the groups of some bytes, as an iterator. Layer 16: a sign out of the string of all signs. No condition. -/
import Derived.Test.YtachkhjbckapoaaT13
import Derived.Test.YtachkhjbckapoaaT00
import Derived.Test.YtachkhjbckapoaaT09
import Derived.Laws.Strings
namespace Go.Proofs.Ytachkhjbckapoaa
open Go.RowKit
set_option linter.unusedVariables false
set_option maxRecDepth 100000
set_option linter.unusedSimpArgs false

/-- Bools as values. -/
def blv (l : List Bool) : List Value := l.map .bool
/-- The bits of a character, the least first. -/
def bits5 (c : Int) : List Bool := [decide (c % 2 = 1), decide (c / 2 % 2 = 1), decide (c / 4 % 2 = 1), decide (c / 8 % 2 = 1), decide (c / 16 % 2 = 1)]
/-- The bits that are put, behind k rounds. -/
def b5row (c : Int) (k : Nat) : List Value := blv ((bits5 c).take k ++ List.replicate (5 - k) false)
theorem and1 {c : Int} (h0 : 0 ≤ c) (h1 : c ≤ 31) : bits .and .i64 c 1 = c % 2 ∧ bits .and .i64 (c / 2) 1 = c / 2 % 2 ∧ bits .and .i64 (c / 4) 1 = c / 4 % 2 ∧ bits .and .i64 (c / 8) 1 = c / 8 % 2 ∧ bits .and .i64 (c / 16) 1 = c / 16 % 2 := by
  refine below32 (P := fun c => bits .and .i64 c 1 = c % 2 ∧ bits .and .i64 (c / 2) 1 = c / 2 % 2 ∧ bits .and .i64 (c / 4) 1 = c / 4 % 2 ∧ bits .and .i64 (c / 8) 1 = c / 8 % 2 ∧ bits .and .i64 (c / 16) 1 = c / 16 % 2) ?_ h0 h1
  decide +kernel
theorem infoB5 : (Try.prog.info? 161).map (·.size) = some 5 := by kernel_rfl
def PbRet (c : Int) (w : World) (e : Ending) (w' : World) : Prop := e = .returned (.tuple #[.agg (blv (bits5 c)).toArray, .int .i64 0]) ∧ Below w.heap.size w w'
theorem pbPost {c : Int} {w w' : World} {a : Act} {old : Array Value} (hd : a.defers = []) (hp : a.tmps.getD 2 undef = .pointer (some ⟨w.heap.size, 0, none⟩)) (hv : a.tmps.getD 3 undef = .int .i64 0)
    (hF : w'.heap[w.heap.size]? = some (.cells old 161 (0, 0))) (hb : Below w.heap.size w w') : bodyPost Try.prog Try.f143 (PbRet c w) .ret a (w'.setRow w.heap.size (blv (bits5 c)).toArray) :=
  bodyPost_ret (results_keyrow rfl Try.underlying161 rfl hp hv (setRow_heap _ _ _ _ _ _ hF) infoB5) hd ⟨rfl, setRow_below hb (Nat.le_refl _)⟩
set_option maxHeartbeats 2000000 in
theorem pbits_any (c : Int) (w : World) (h0 : 0 ≤ c) (h1 : c ≤ 31) : Calls Try.prog 143 #[.int .i64 c] w (PbRet c w) := by
  have hW := fun W => pwithin_any c 31 W
  rw [show (decide (0 ≤ c) && decide (c ≤ 31)) = true by simp [h0, h1]] at hW
  obtain ⟨a1, a2, a4, a8, a16⟩ := and1 h0 h1
  obtain ⟨w2, e2, hA, hB, hz, hb2⟩ := new2 w (.cells #[.bool false, .bool false, .bool false, .bool false, .bool false] 161) (.cells #[.bool false, .bool false, .bool false, .bool false, .bool false] 161)
  go_enter Try.func143, Try.ntmps143
  go_wp2_with (go_at_call 141; (with_reducible refine (hW _).mono ?_); rintro e w' ⟨rfl, rfl⟩)
  go_loopw [5, 10] (fun _ i wr => ∃ k : Nat, k ≤ 5 ∧ i = .int .i64 k ∧ Hid (wr.heap[w.heap.size + 1]? = some (.cells (b5row c k).toArray 161 (0, 0))) ∧ Hid (wr.heap[w.heap.size]? = some (.cells #[.bool false, .bool false, .bool false, .bool false, .bool false] 161 (0, 0))) ∧ Below w.heap.size w wr) (fun _ i _ => 5 - (intOf i).toNat)
  case atStart => exact ⟨0, Nat.zero_le _, rfl, Lib.hid hB, Lib.hid hA, hb2⟩
  case round =>
    obtain ⟨k, hk, rfl, HB, HA, hbw⟩ := hrel
    have hk5 : k = 0 ∨ k = 1 ∨ k = 2 ∨ k = 3 ∨ k = 4 ∨ k = 5 := by omega
    rcases hk5 with rfl | rfl | rfl | rfl | rfl | rfl
    · have hc := cell_of_row _ _ 0 _ _ _ HB.out
      have hf := row_free HB.out 0
      have HS := Lib.hid (heap_setCell_same wr (w.heap.size + 1) 0 _ _ (.bool (decide (c % 2 = 1))) HB.out)
      have HA2 := Lib.hid ((Below.heap_setCell wr ⟨w.heap.size + 1, 0, none⟩ (.bool (decide (c % 2 = 1))) w.heap.size (by show w.heap.size ≠ w.heap.size + 1; omega)).trans HA.out)
      have hbs := bSg hbw (g := w.heap.size + 1) (j := 0) (by omega) (.bool (decide (c % 2 = 1)))
      go_wp2
      go_roundw
      case rel => exact ⟨1, by omega, by go_num, HS, HA2, hbs⟩
      case measure => simp [intOf]
    · have hc := cell_of_row _ _ 1 _ _ _ HB.out
      have hf := row_free HB.out 1
      have HS := Lib.hid (heap_setCell_same wr (w.heap.size + 1) 1 _ _ (.bool (decide (c / 2 % 2 = 1))) HB.out)
      have HA2 := Lib.hid ((Below.heap_setCell wr ⟨w.heap.size + 1, 1, none⟩ (.bool (decide (c / 2 % 2 = 1))) w.heap.size (by show w.heap.size ≠ w.heap.size + 1; omega)).trans HA.out)
      have hbs := bSg hbw (g := w.heap.size + 1) (j := 1) (by omega) (.bool (decide (c / 2 % 2 = 1)))
      go_wp2
      go_roundw
      case rel => exact ⟨2, by omega, by go_num, HS, HA2, hbs⟩
      case measure => simp [intOf]
    · have hc := cell_of_row _ _ 2 _ _ _ HB.out
      have hf := row_free HB.out 2
      have HS := Lib.hid (heap_setCell_same wr (w.heap.size + 1) 2 _ _ (.bool (decide (c / 4 % 2 = 1))) HB.out)
      have HA2 := Lib.hid ((Below.heap_setCell wr ⟨w.heap.size + 1, 2, none⟩ (.bool (decide (c / 4 % 2 = 1))) w.heap.size (by show w.heap.size ≠ w.heap.size + 1; omega)).trans HA.out)
      have hbs := bSg hbw (g := w.heap.size + 1) (j := 2) (by omega) (.bool (decide (c / 4 % 2 = 1)))
      go_wp2
      go_roundw
      case rel => exact ⟨3, by omega, by go_num, HS, HA2, hbs⟩
      case measure => simp [intOf]
    · have hc := cell_of_row _ _ 3 _ _ _ HB.out
      have hf := row_free HB.out 3
      have HS := Lib.hid (heap_setCell_same wr (w.heap.size + 1) 3 _ _ (.bool (decide (c / 8 % 2 = 1))) HB.out)
      have HA2 := Lib.hid ((Below.heap_setCell wr ⟨w.heap.size + 1, 3, none⟩ (.bool (decide (c / 8 % 2 = 1))) w.heap.size (by show w.heap.size ≠ w.heap.size + 1; omega)).trans HA.out)
      have hbs := bSg hbw (g := w.heap.size + 1) (j := 3) (by omega) (.bool (decide (c / 8 % 2 = 1)))
      go_wp2
      go_roundw
      case rel => exact ⟨4, by omega, by go_num, HS, HA2, hbs⟩
      case measure => simp [intOf]
    · have hc := cell_of_row _ _ 4 _ _ _ HB.out
      have hf := row_free HB.out 4
      have HS := Lib.hid (heap_setCell_same wr (w.heap.size + 1) 4 _ _ (.bool (decide (c / 16 % 2 = 1))) HB.out)
      have HA2 := Lib.hid ((Below.heap_setCell wr ⟨w.heap.size + 1, 4, none⟩ (.bool (decide (c / 16 % 2 = 1))) w.heap.size (by show w.heap.size ≠ w.heap.size + 1; omega)).trans HA.out)
      have hbs := bSg hbw (g := w.heap.size + 1) (j := 4) (by omega) (.bool (decide (c / 16 % 2 = 1)))
      go_wp2
      go_roundw
      case rel => exact ⟨5, by omega, by go_num, HS, HA2, hbs⟩
      case measure => simp [intOf]
    · have HV := Lib.hid (show b5row c 5 = blv (bits5 c) from rfl)
      have hB5 := HB.out
      rw [HV.out] at hB5
      have hc0 : wr.cell? ⟨w.heap.size + 1, 0, none⟩ = some (.bool (decide (c % 2 = 1))) := cell_of_row _ _ 0 _ _ _ hB5
      have hc1 : wr.cell? ⟨w.heap.size + 1, 1, none⟩ = some (.bool (decide (c / 2 % 2 = 1))) := cell_of_row _ _ 1 _ _ _ hB5
      have hc2 : wr.cell? ⟨w.heap.size + 1, 2, none⟩ = some (.bool (decide (c / 4 % 2 = 1))) := cell_of_row _ _ 2 _ _ _ hB5
      have hc3 : wr.cell? ⟨w.heap.size + 1, 3, none⟩ = some (.bool (decide (c / 8 % 2 = 1))) := cell_of_row _ _ 3 _ _ _ hB5
      have hc4 : wr.cell? ⟨w.heap.size + 1, 4, none⟩ = some (.bool (decide (c / 16 % 2 = 1))) := cell_of_row _ _ 4 _ _ _ hB5
      go_wp2_with (refine wpList_store_row rfl 161 _ _ rfl w.heap.size #[.bool (decide (c % 2 = 1)), .bool (decide (c / 2 % 2 = 1)), .bool (decide (c / 4 % 2 = 1)), .bool (decide (c / 8 % 2 = 1)), .bool (decide (c / 16 % 2 = 1))] rfl rfl 161 _ HA.out ?_ ?_ ?_ ?_; (focus (exact infoB5)); (focus rfl); (focus (simp [Value.oneCell'])))
      exact pbPost rfl rfl rfl HA.out hbw
end Go.Proofs.Ytachkhjbckapoaa

namespace Go.Proofs.Ytachkhjbckapoaa
open Go.RowKit
set_option linter.unusedVariables false
set_option maxRecDepth 100000
set_option linter.unusedSimpArgs false

/-- The slice at A reads as the bools l. -/
def RdB (w : World) (A : Option Addr) (l : List Bool) : Prop :=
  l = [] ∨ ∃ ad, A = some ad ∧ ad.block < w.heap.size ∧ ∀ j, j < l.length → w.cell? (ad.add j) = some (.bool (l.getD j false))
theorem RdB.at_ {w : World} {A : Option Addr} {l : List Bool} (h : RdB w A l) {j : Nat} (hj : j < l.length) : ∃ ad, A = some ad ∧ w.cell? (ad.add j) = some (.bool (l.getD j false)) := by
  rcases h with rfl | ⟨ad, e, _, hc⟩
  · simp at hj
  · exact ⟨ad, e, hc j hj⟩
theorem RdB.keep {w w' : World} {A : Option Addr} {l : List Bool} (h : RdB w A l) (hs : w.heap.size ≤ w'.heap.size) (hb : ∀ b, b < w.heap.size → w'.heap[b]? = w.heap[b]?) : RdB w' A l := by
  rcases h with h | ⟨ad, e, hlt, hc⟩
  · exact .inl h
  · exact .inr ⟨ad, e, Nat.lt_of_lt_of_le hlt hs, fun j hj => (World.cell?_of_block (hb _ (by rw [add_block]; exact hlt))).trans (hc j hj)⟩
theorem RdB.below {w w' : World} {A : Option Addr} {l : List Bool} (h : RdB w A l) (hb : Below w.heap.size w w') : RdB w' A l := h.keep hb.size fun b hlt => hb.block b hlt
theorem blv_len (l : List Bool) : (blv l).length = l.length := by simp [blv]
theorem blv_at {l : List Bool} {j : Nat} (h : j < l.length) : (blv l)[j]? = some (.bool (l.getD j false)) := by
  unfold blv
  rw [List.getElem?_map, List.getElem?_eq_getElem h, List.getD_eq_getElem?_getD, List.getElem?_eq_getElem h]
  rfl
theorem blv_one (l : List Bool) : ∀ v ∈ blv l, v.oneCell' = true := by
  intro v hv
  obtain ⟨x, _, rfl⟩ := List.mem_map.1 hv
  rfl
theorem rdB_row {w : World} {g : Nat} {l : List Bool} {t : TypeId} (h : w.heap[g]? = some (.cells (blv l).toArray t (0, 0))) : RdB w (some ⟨g, 0, none⟩) l := by
  refine .inr ⟨_, rfl, (Array.getElem?_eq_some_iff.1 h).1, fun j hj => ?_⟩
  have e : (⟨g, 0, none⟩ : Addr).add j = ⟨g, j, none⟩ := by unfold Addr.add; by_cases h : j = 0 <;> simp [h]
  rw [e, cell_of_row w g j _ _ _ h]
  simpa using blv_at hj
theorem rdB_own {w : World} {base e : Nat} {c : Nat} {A : Option Addr} {l : List Bool} (h : w.ownsRow base e 1 (.slice A l.length c) l.length (blv l)) : RdB w A l := by
  rcases h.2 with ⟨e1, h0⟩ | ⟨g, cap, cur, e1, _, hh, h1, h2, _⟩
  · exact .inl (List.eq_nil_of_length_eq_zero h0)
  · obtain ⟨rfl, rfl⟩ : A = some ⟨g, 0, none⟩ ∧ c = cap := by injection e1 with a b c; exact ⟨a, c⟩
    refine .inr ⟨_, rfl, (h.lt g rfl).2, fun j hj => ?_⟩
    exact h.cells rfl _ _ (blv_at hj)
/-- The bits of a value's character. -/
def vbits (v : Int) : List Bool := bits5 (chr v)
theorem vbits_len (v : Int) : (vbits v).length = 5 := rfl
theorem tbits_any (v : Int) (w : World) (h0 : 0 ≤ v) (h1 : v ≤ 15) : Calls Try.prog 106 #[.int .i64 v] w fun e w' => (∃ g, e = .returned (.slice (some ⟨g, 0, none⟩) 5 5) ∧ w.heap.size ≤ g ∧ w'.heap[g]? = some (.cells (blv (vbits v)).toArray 161 (0, 0))) ∧ Below w.heap.size w w' := by
  have hC := fun W => char_any v W h0 h1
  obtain ⟨_, c0, c1, _⟩ := chr_odd h0 h1
  have hB := fun W => pbits_any (chr v) W c0 c1
  unfold vbits
  generalize chr v = c at *
  have hB2 : ∀ W, Calls Try.prog 143 #[.int .i64 c] W fun e w' => e = .returned (.tuple #[.agg #[.bool (decide (c % 2 = 1)), .bool (decide (c / 2 % 2 = 1)), .bool (decide (c / 4 % 2 = 1)), .bool (decide (c / 8 % 2 = 1)), .bool (decide (c / 16 % 2 = 1))], .int .i64 0]) ∧ Below W.heap.size W w' := hB
  go_enter Try.func106, Try.ntmps106
  go_wp2_with (first | (go_at_call 142; (with_reducible refine (hC _).mono ?_); rintro e w' ⟨rfl, rfl⟩) | (go_at_call 143; (with_reducible refine (hB2 _).mono ?_); rintro e w' ⟨rfl, hb⟩))
  go_ret
  exact ⟨⟨_, rfl, hb.size, heap_alloc_new w' _⟩, bA hb _⟩
end Go.Proofs.Ytachkhjbckapoaa

namespace Go.Proofs.Ytachkhjbckapoaa
open Go.RowKit
set_option linter.unusedVariables false
set_option maxRecDepth 100000
set_option linter.unusedSimpArgs false

def S45 : List Int := [48, 49, 50, 51, 52, 53, 54, 55, 56, 57, 65, 66, 67, 68, 69, 70, 71, 72, 73, 74, 75, 76, 77, 78, 79, 80, 81, 82, 83, 84, 85, 86, 87, 88, 89, 90, 32, 36, 37, 42, 43, 45, 46, 47, 58]
/-- The sign of a number. -/
def sg45 (n : Int) : Int := S45.getD n.toNat 0
def dgGo (c : Int) : List Int → Int → Int
  | [], _ => -1
  | x :: l, k => if x = c then k else dgGo c l (k + 1)
/-- The number of a sign; -1, if it is none. -/
def dg45 (c : Int) : Int := dgGo c S45 0
def fortyPut : List Int → List Int
  | [] => []
  | [x] => [sg45 (x % 45), sg45 (x / 45)]
  | x :: y :: t => sg45 ((256 * x + y) % 45) :: sg45 ((256 * x + y) / 45 % 45) :: sg45 ((256 * x + y) / 45 / 45) :: fortyPut t
def bad3 (a b c : Int) : Bool := decide (dg45 a < 0) || decide (dg45 b < 0) || decide (dg45 c < 0)
def bad2 (a b : Int) : Bool := decide (dg45 a < 0) || decide (dg45 b < 0)
def n3 (a b c : Int) : Int := dg45 a + 45 * dg45 b + 2025 * dg45 c
def n2 (a b : Int) : Int := dg45 a + 45 * dg45 b
def fortyGo : List Int → List Int → List Int × Int
  | [], acc => (acc, 0)
  | [_], _ => ([], 14)
  | [a, b], acc => if bad2 a b then ([], 7) else if 255 < n2 a b then ([], 23) else (acc ++ [n2 a b], 0)
  | a :: b :: c :: t, acc => if bad3 a b c then ([], 7) else if 65535 < n3 a b c then ([], 23) else fortyGo t (acc ++ [n3 a b c / 256, n3 a b c % 256])
def fortyGet (s : List Int) : List Int × Int := if s.length % 3 = 1 then ([], 14) else fortyGo s []

theorem sg_dg : ∀ n : Fin 45, dg45 (sg45 (n.val : Int)) = (n.val : Int) := by decide
theorem sg_dg' {n : Int} (h0 : 0 ≤ n) (h : n < 45) : dg45 (sg45 n) = n := by
  have := sg_dg ⟨n.toNat, by omega⟩
  simpa [show ((n.toNat : Nat) : Int) = n by omega] using this
theorem dgGo_sg : ∀ (l : List Int) (c k : Int), 0 ≤ k → dgGo c l k < 0 ∨ (k ≤ dgGo c l k ∧ dgGo c l k < k + l.length ∧ l.getD (dgGo c l k - k).toNat 0 = c)
  | [], c, k, h => .inl (by simp [dgGo])
  | x :: l, c, k, h => by
    unfold dgGo
    by_cases e : x = c
    · rw [if_pos e]; right; refine ⟨by omega, by simp; omega, by simp [e]⟩
    · rw [if_neg e]
      rcases dgGo_sg l c (k + 1) (by omega) with h | ⟨h1, h2, h3⟩
      · exact .inl h
      · right
        refine ⟨by omega, by simp; omega, ?_⟩
        obtain ⟨m, hm⟩ : ∃ m : Nat, dgGo c l (k + 1) - (k + 1) = m := ⟨(dgGo c l (k + 1) - (k + 1)).toNat, by omega⟩
        have e2 : (dgGo c l (k + 1) - k).toNat = m + 1 := by omega
        rw [e2, List.getD_cons_succ, ← h3, hm]; simp
theorem dg_sg {c : Int} (h : ¬ dg45 c < 0) : sg45 (dg45 c) = c ∧ 0 ≤ dg45 c ∧ dg45 c < 45 := by
  rcases dgGo_sg S45 c 0 (by omega) with h' | ⟨h1, h2, h3⟩
  · exact absurd h' h
  · refine ⟨?_, h1, ?_⟩
    · unfold sg45; unfold dg45; simpa using h3
    · have : S45.length = 45 := by decide
      unfold dg45; omega
theorem dg_le (c : Int) : dg45 c < 45 := by
  by_cases h : dg45 c < 0
  · omega
  · exact (dg_sg h).2.2
theorem sg_byte (n : Int) : 0 ≤ sg45 n ∧ sg45 n < 256 := by
  unfold sg45
  have h : ∀ x ∈ S45, 0 ≤ x ∧ x < 256 := by decide
  rw [List.getD_eq_getElem?_getD]
  cases e : S45[n.toNat]? with
  | none => simp
  | some x => simpa using h x (List.mem_of_getElem? e)

theorem fortyPut_byte : ∀ (l : List Int), ∀ x ∈ fortyPut l, 0 ≤ x ∧ x < 256
  | [], x, h => by simp [fortyPut] at h
  | [y], x, h => by simp [fortyPut] at h; rcases h with rfl | rfl <;> exact sg_byte _
  | y :: z :: t, x, h => by
    simp only [fortyPut, List.mem_cons] at h
    rcases h with rfl | rfl | rfl | h
    · exact sg_byte _
    · exact sg_byte _
    · exact sg_byte _
    · exact fortyPut_byte t x h
theorem fortyPut_len : ∀ (l : List Int), (fortyPut l).length = l.length + (l.length + 1) / 2
  | [] => by simp [fortyPut]
  | [y] => by simp [fortyPut]
  | y :: z :: t => by simp only [fortyPut, List.length_cons, fortyPut_len t]; omega
theorem n3_of {x y : Int} (hx : 0 ≤ x ∧ x < 256) (hy : 0 ≤ y ∧ y < 256) : bad3 (sg45 ((256 * x + y) % 45)) (sg45 ((256 * x + y) / 45 % 45)) (sg45 ((256 * x + y) / 45 / 45)) = false ∧ n3 (sg45 ((256 * x + y) % 45)) (sg45 ((256 * x + y) / 45 % 45)) (sg45 ((256 * x + y) / 45 / 45)) = 256 * x + y := by
  have e1 := sg_dg' (n := (256 * x + y) % 45) (by omega) (by omega)
  have e2 := sg_dg' (n := (256 * x + y) / 45 % 45) (by omega) (by omega)
  have e3 := sg_dg' (n := (256 * x + y) / 45 / 45) (by omega) (by omega)
  unfold bad3 n3
  rw [e1, e2, e3]
  refine ⟨?_, by omega⟩
  simp only [Bool.or_eq_false_iff, decide_eq_false_iff_not]
  omega
theorem n2_of {x : Int} (hx : 0 ≤ x ∧ x < 256) : bad2 (sg45 (x % 45)) (sg45 (x / 45)) = false ∧ n2 (sg45 (x % 45)) (sg45 (x / 45)) = x := by
  have e1 := sg_dg' (n := x % 45) (by omega) (by omega)
  have e2 := sg_dg' (n := x / 45) (by omega) (by omega)
  unfold bad2 n2
  rw [e1, e2]
  refine ⟨?_, by omega⟩
  simp only [Bool.or_eq_false_iff, decide_eq_false_iff_not]
  omega
theorem fortyGo_put : ∀ (l acc : List Int), (∀ x ∈ l, 0 ≤ x ∧ x < 256) → fortyGo (fortyPut l) acc = (acc ++ l, 0)
  | [], acc, h => by simp [fortyPut, fortyGo]
  | [x], acc, h => by
    obtain ⟨e1, e2⟩ := n2_of (h x (by simp))
    have hx := h x (by simp)
    simp only [fortyPut, fortyGo]
    rw [e1, e2]
    simp; omega
  | x :: y :: t, acc, h => by
    have hx := h x (by simp)
    have hy := h y (by simp)
    obtain ⟨e1, e2⟩ := n3_of hx hy
    have ih := fortyGo_put t (acc ++ [x, y]) (fun z hz => h z (by simp [hz]))
    simp only [fortyPut, fortyGo]
    rw [e1, e2]
    have d1 : (256 * x + y) / 256 = x := by omega
    have d2 : (256 * x + y) % 256 = y := by omega
    rw [d1, d2, ih, if_neg (by simp), if_neg (by omega)]
    simp
/-- What was put is got again. -/
theorem fortyGet_put {l : List Int} (h : ∀ x ∈ l, 0 ≤ x ∧ x < 256) : fortyGet (fortyPut l) = (l, 0) := by
  unfold fortyGet
  rw [if_neg (by rw [fortyPut_len]; omega), fortyGo_put l [] h]
  simp
theorem fortyGo_ok : ∀ (s acc l : List Int), fortyGo s acc = (l, 0) → ∃ m, l = acc ++ m ∧ fortyPut m = s ∧ (∀ x ∈ m, 0 ≤ x ∧ x < 256)
  | [], acc, l, h => by simp [fortyGo] at h; exact ⟨[], by simp [h], rfl, by simp⟩
  | [_], acc, l, h => by simp [fortyGo] at h
  | [a, b], acc, l, h => by
    simp only [fortyGo] at h
    cases hb : bad2 a b with
    | true => rw [hb] at h; simp at h
    | false =>
      rw [hb] at h
      by_cases h2 : 255 < n2 a b
      · simp [h2] at h
      · simp [h2] at h
        unfold bad2 at hb
        simp only [Bool.or_eq_false_iff, decide_eq_false_iff_not] at hb
        obtain ⟨a1, a2, a3⟩ := dg_sg hb.1
        obtain ⟨b1, b2, b3⟩ := dg_sg hb.2
        refine ⟨[n2 a b], h.symm, ?_, ?_⟩
        · unfold n2
          simp only [fortyPut]
          rw [show (dg45 a + 45 * dg45 b) % 45 = dg45 a by omega, show (dg45 a + 45 * dg45 b) / 45 = dg45 b by omega, a1, b1]
        · intro x hx; simp at hx; subst hx; unfold n2 at *; omega
  | a :: b :: c :: t, acc, l, h => by
    simp only [fortyGo] at h
    cases hb : bad3 a b c with
    | true => rw [hb] at h; simp at h
    | false =>
      rw [hb] at h
      by_cases h2 : 65535 < n3 a b c
      · simp [h2] at h
      · simp only [Bool.false_eq_true, if_false, h2] at h
        obtain ⟨m, hm, hp, hq⟩ := fortyGo_ok t _ l h
        unfold bad3 at hb
        simp only [Bool.or_eq_false_iff, decide_eq_false_iff_not] at hb
        obtain ⟨a1, a2, a3⟩ := dg_sg hb.1.1
        obtain ⟨b1, b2, b3⟩ := dg_sg hb.1.2
        obtain ⟨c1, c2, c3⟩ := dg_sg hb.2
        have n0 : 0 ≤ n3 a b c := by unfold n3; omega
        refine ⟨n3 a b c / 256 :: n3 a b c % 256 :: m, by simp [hm], ?_, ?_⟩
        · simp only [fortyPut]
          have e : 256 * (n3 a b c / 256) + n3 a b c % 256 = n3 a b c := by omega
          rw [e, hp]
          unfold n3
          rw [show (dg45 a + 45 * dg45 b + 2025 * dg45 c) % 45 = dg45 a by omega, show (dg45 a + 45 * dg45 b + 2025 * dg45 c) / 45 % 45 = dg45 b by omega, show (dg45 a + 45 * dg45 b + 2025 * dg45 c) / 45 / 45 = dg45 c by omega, a1, b1, c1]
        · intro x hx
          simp only [List.mem_cons] at hx
          rcases hx with rfl | rfl | hx
          · omega
          · omega
          · exact hq x hx
/-- What was got is put as it was, and is of bytes. -/
theorem fortyPut_get {s l : List Int} (h : fortyGet s = (l, 0)) : fortyPut l = s ∧ ∀ x ∈ l, 0 ≤ x ∧ x < 256 := by
  unfold fortyGet at h
  split at h
  · simp at h
  · obtain ⟨m, hm, hp, hq⟩ := fortyGo_ok s [] l h
    simp at hm
    subst hm
    exact ⟨hp, hq⟩
theorem fortyGo_fail : ∀ (s acc : List Int), (fortyGo s acc).2 ≠ 0 → (fortyGo s acc).1 = []
  | [], acc, h => by simp [fortyGo] at h
  | [_], acc, h => by simp [fortyGo]
  | [a, b], acc, h => by
    simp only [fortyGo] at h ⊢
    split
    · rfl
    · split
      · rfl
      · rename_i h1 h2; simp [h1, h2] at h
  | a :: b :: c :: t, acc, h => by
    simp only [fortyGo] at h ⊢
    split
    · rfl
    · split
      · rfl
      · rename_i h1 h2; rw [if_neg h1, if_neg h2] at h; exact fortyGo_fail t _ h
theorem fortyGet_fail {s : List Int} (h : (fortyGet s).2 ≠ 0) : (fortyGet s).1 = [] := by
  unfold fortyGet at h ⊢
  split
  · rfl
  · rename_i h1; rw [if_neg h1] at h; exact fortyGo_fail s [] h
end Go.Proofs.Ytachkhjbckapoaa

namespace Go.Proofs.Ytachkhjbckapoaa
open Go.RowKit Go.Shelf
set_option linter.unusedVariables false
set_option maxRecDepth 100000
set_option linter.unusedSimpArgs false

theorem groups_any (A : Option Addr) (n c : Nat) (sz : Int) (w : World) : Calls Try.prog 78 #[.slice A n c, .int .i64 sz] w fun e w' => e = .returned (.func (.func 119) #[] #[.pointer (some ⟨w.heap.size, 0, none⟩), .pointer (some ⟨w.heap.size + 1, 0, none⟩)]) ∧ (w.alloc (.cells #[.slice A n c] 30)).alloc (.cells #[.int .i64 sz] 3) = w' := by
  have hmf : ∀ (fn : Fn) (first cap : Array Value) (w : World), (Instr.makeFunc fn first cap).run Try.prog w = .ok (.func fn first cap) w := fun _ _ _ _ => rfl
  go_enter Try.func78, Try.ntmps78
  go_wp2
  go_ret
  exact ⟨rfl, rfl⟩

def lenCell (W : World) (b : Nat) : Nat := match W.cell? ⟨b, 0, none⟩ with
  | some (.slice _ n _) => n
  | _ => 0
theorem lenCell_boxed {W : World} {b : Nat} {t : TypeId} {A : Option Addr} {n c : Nat} (h : Boxed W b t (.slice A n c)) : lenCell W b = n := by unfold lenCell; rw [h.cell]

theorem map_addF {s : Nat} (A : Option Addr) : A.map (fun x : Addr => x.add (s + 1)) = A.map (fun x : Addr => (⟨x.block, x.off + (s + 1), none⟩ : Addr)) := by cases A <;> simp [Addr.add]
attribute [local go_sem] Oper.semAt_some
set_option maxHeartbeats 8000000 in
theorem fiter2_any (n L Bl Bs N : Nat) (hn : 1 ≤ n) (A : Option Addr) (c : Nat) (l : List Int) (w0 : World) (hr : RdI w0 .u8 A l) (hlc : l.length ≤ c) (hc9 : c ≤ 9223372036854775807) (hN : N = (l.length + 1) / 2)
    (J : Nat → World → Prop) (Jx : World → Prop) (hJb : ∀ k W, J k W → Below w0.heap.size w0 W ∧ Boxed W Bs 3 (.int .i64 2)) (hJs : ∀ k W v, J k W → J k (W.setCell ⟨Bl, 0, none⟩ v))
    (hY : ∀ (k : Nat) (A' : Option Addr) (c' m : Nat) (q : List Int) (W : World), J k W → Boxed W Bl 30 (.slice A' q.length c') → RdI w0 .u8 A' q → l.drop (2 * k) = q → 0 < q.length → m = min 2 q.length →
      YieldAt Fence.wide (n - 1) Try.prog L #[.slice A' m c'] W fun e W' => (e = .returned (.bool true) ∧ J (k + 1) W' ∧ Boxed W' Bl 30 (.slice A' q.length c')) ∨ (e = .returned (.bool false) ∧ Jx W'))
    (W : World) (h0 : J 0 W) (hbl : Boxed W Bl 30 (.slice A l.length c)) :
    CallsIn Fence.wide n Try.prog 119 #[.func (.yield L) #[] #[], .pointer (some ⟨Bl, 0, none⟩), .pointer (some ⟨Bs, 0, none⟩)] W fun e W' => (∃ v, e = .returned v) ∧ (J N W' ∨ Jx W') := by
  have HN := Lib.hid hN
  clear hN
  refine callsIn_of_wp Try.func119 rfl trivial ?_ rfl
  simp only [Try.ntmps119, List.size_toArray, List.length_cons, List.length_nil, Nat.reduceAdd, Nat.reduceSub, Array.replicate_succ, Array.replicate_zero, List.push_toArray, List.append_toArray, List.nil_append, List.cons_append]
  gi_wp2
  gi_loopw [4] (fun _ wr => ∃ (k : Nat) (A' : Option Addr) (c' : Nat) (q : List Int), J k wr ∧ Boxed wr Bl 30 (.slice A' q.length c') ∧ q.length ≤ c' ∧ c' ≤ 9223372036854775807 ∧ RdI w0 .u8 A' q ∧ Hid (l.drop (2 * k) = q) ∧ 2 * k < l.length + 2) (fun _ wr => lenCell wr Bl)
  case atStart => exact ⟨0, A, c, l, h0, hbl, hlc, hc9, hr, Lib.hid (by simp), by omega⟩
  case round =>
    obtain ⟨k, A', c', q, hJ, hB, hcl, hcc, hra, hq, hkl⟩ := hrel
    have hb1 := hB.cell
    have hcw2 := (hJb k wr hJ).2.cell
    by_cases hp : 0 < q.length
    · have d1 : (0 : Int) < (q.length : Int) := by omega
      have hkn : 2 * k + q.length = l.length := by
        have h := congrArg List.length hq.out
        rw [List.length_drop] at h
        omega
      by_cases hs : 2 ≤ q.length
      · have m1 : min (2 : Int) (q.length : Int) = 2 := by omega
        have s1 : (2 : Int) ≤ (c' : Int) := by omega
        have s2 : (2 : Int) ≤ (q.length : Int) := by omega
        obtain ⟨fn, tmps, assign, body, hy, hR⟩ := hY k A' c' 2 q wr hJ hB hra hq.out hp (by omega)
        have HKN := Lib.hid hkn
        clear hkn
        by_cases hct : c' = 2
        · subst hct
          gi_wp2
          refine hR.mono ?_
          rintro e W3 (⟨rfl, hJ3, hb3⟩ | ⟨rfl, hx3⟩)
          · have hJ4 := hJs _ _ (.slice A' 0 0) hJ3
            have hfz := hb3.frozen
            have hc3 := hb3.cell
            have hcw3 := (hJb _ W3 hJ3).2.cell
            have hb4 := hb3.set (.slice A' 0 0)
            have HJ4 := Lib.hid hJ4
            have HB4 := Lib.hid hb4
            clear hJ4 hb4 hJ3
            gi_wp2
            refine ⟨⟨k + 1, A', 0, q.drop q.length, HJ4.out, by rw [List.length_drop, Nat.sub_self]; exact HB4.out, by rw [List.length_drop]; omega, by omega, (by rw [List.drop_length]; exact RdI.nil _ _ _), Lib.hid (by rw [List.drop_length]; exact List.drop_eq_nil_of_le (by have := HKN.out; omega)), by have := HKN.out; omega⟩, by rw [lenCell_boxed HB4.out, lenCell_boxed hB]; omega⟩
          · gi_wp2
            refine bodyPost_ret (results_none rfl _ _ _) rfl ?_
            exact ⟨⟨_, rfl⟩, .inr hx3⟩
        · gi_wp2
          refine hR.mono ?_
          rintro e W3 (⟨rfl, hJ3, hb3⟩ | ⟨rfl, hx3⟩)
          · have hJ4 := hJs _ _ (.slice (A'.map fun x => (⟨x.block, x.off + 2, none⟩ : Addr)) (q.length - 2) (c' - 2)) hJ3
            have hfz := hb3.frozen
            have hc3 := hb3.cell
            have hcw3 := (hJb _ W3 hJ3).2.cell
            have hb4 := hb3.set (.slice (A'.map fun x => (⟨x.block, x.off + 2, none⟩ : Addr)) (q.length - 2) (c' - 2))
            have HJ4 := Lib.hid hJ4
            have HB4 := Lib.hid hb4
            clear hJ4 hb4 hJ3
            gi_wp2
            refine ⟨⟨k + 1, (A'.map fun x => (⟨x.block, x.off + 2, none⟩ : Addr)), (c' - 2), q.drop 2, HJ4.out, by rw [List.length_drop]; exact HB4.out, by rw [List.length_drop]; omega, by omega, (by have h := hra.cut (c := c') 2 (by omega); rw [if_neg hct, map_addF] at h; exact h), Lib.hid (by have h := hq.out; rw [← h, List.drop_drop, show 2 * k + 2 = 2 * (k + 1) by omega]), by have := HKN.out; omega⟩, by rw [lenCell_boxed HB4.out, lenCell_boxed hB]; omega⟩
          · gi_wp2
            refine bodyPost_ret (results_none rfl _ _ _) rfl ?_
            exact ⟨⟨_, rfl⟩, .inr hx3⟩
      · have m1 : min (2 : Int) (q.length : Int) = (q.length : Int) := by omega
        have s1 : (q.length : Int) ≤ (c' : Int) := by omega
        obtain ⟨fn, tmps, assign, body, hy, hR⟩ := hY k A' c' q.length q wr hJ hB hra hq.out hp (by omega)
        have HKN := Lib.hid hkn
        clear hkn
        by_cases hct : c' = q.length
        · subst hct
          gi_wp2
          refine hR.mono ?_
          rintro e W3 (⟨rfl, hJ3, hb3⟩ | ⟨rfl, hx3⟩)
          · have hJ4 := hJs _ _ (.slice A' 0 0) hJ3
            have hfz := hb3.frozen
            have hc3 := hb3.cell
            have hcw3 := (hJb _ W3 hJ3).2.cell
            have hb4 := hb3.set (.slice A' 0 0)
            have HJ4 := Lib.hid hJ4
            have HB4 := Lib.hid hb4
            clear hJ4 hb4 hJ3
            gi_wp2
            refine ⟨⟨k + 1, A', 0, q.drop q.length, HJ4.out, by rw [List.length_drop, Nat.sub_self]; exact HB4.out, by rw [List.length_drop]; omega, by omega, (by rw [List.drop_length]; exact RdI.nil _ _ _), Lib.hid (by rw [List.drop_length]; exact List.drop_eq_nil_of_le (by have := HKN.out; omega)), by have := HKN.out; omega⟩, by rw [lenCell_boxed HB4.out, lenCell_boxed hB]; omega⟩
          · gi_wp2
            refine bodyPost_ret (results_none rfl _ _ _) rfl ?_
            exact ⟨⟨_, rfl⟩, .inr hx3⟩
        · gi_wp2
          refine hR.mono ?_
          rintro e W3 (⟨rfl, hJ3, hb3⟩ | ⟨rfl, hx3⟩)
          · have hJ4 := hJs _ _ (.slice (A'.map fun x => x.add q.length) 0 (c' - q.length)) hJ3
            have hfz := hb3.frozen
            have hc3 := hb3.cell
            have hcw3 := (hJb _ W3 hJ3).2.cell
            have hb4 := hb3.set (.slice (A'.map fun x => x.add q.length) 0 (c' - q.length))
            have HJ4 := Lib.hid hJ4
            have HB4 := Lib.hid hb4
            clear hJ4 hb4 hJ3
            gi_wp2
            refine ⟨⟨k + 1, (A'.map fun x => x.add q.length), (c' - q.length), q.drop q.length, HJ4.out, by rw [List.length_drop, Nat.sub_self]; exact HB4.out, by rw [List.length_drop]; omega, by omega, (by rw [List.drop_length]; exact RdI.nil _ _ _), Lib.hid (by rw [List.drop_length]; exact List.drop_eq_nil_of_le (by have := HKN.out; omega)), by have := HKN.out; omega⟩, by rw [lenCell_boxed HB4.out, lenCell_boxed hB]; omega⟩
          · gi_wp2
            refine bodyPost_ret (results_none rfl _ _ _) rfl ?_
            exact ⟨⟨_, rfl⟩, .inr hx3⟩
    · have hz : q = [] := List.eq_nil_of_length_eq_zero (by omega)
      have hkn : l.length ≤ 2 * k := by
        have h := congrArg List.length hq.out
        rw [List.length_drop, hz] at h
        simp at h
        omega
      have HE := Lib.hid (show k = N by have := HN.out; omega)
      have HJ := Lib.hid hJ
      have d1 : ¬ (0 : Int) < (q.length : Int) := by omega
      clear hJ hz hkn
      gi_wp2
      go_end0
      exact ⟨⟨_, rfl⟩, .inl (by have h := HJ.out; rw [HE.out] at h; exact h)⟩


set_option maxHeartbeats 8000000 in
theorem fiter3_any (n L Bl Bs N : Nat) (hn : 1 ≤ n) (A : Option Addr) (c : Nat) (l : List Int) (w0 : World) (hr : RdI w0 .u8 A l) (hlc : l.length ≤ c) (hc9 : c ≤ 9223372036854775807) (hN : N = (l.length + 2) / 3)
    (J : Nat → World → Prop) (Jx : World → Prop) (hJb : ∀ k W, J k W → Below w0.heap.size w0 W ∧ Boxed W Bs 3 (.int .i64 3)) (hJs : ∀ k W v, J k W → J k (W.setCell ⟨Bl, 0, none⟩ v))
    (hY : ∀ (k : Nat) (A' : Option Addr) (c' m : Nat) (q : List Int) (W : World), J k W → Boxed W Bl 30 (.slice A' q.length c') → RdI w0 .u8 A' q → l.drop (3 * k) = q → 0 < q.length → m = min 3 q.length →
      YieldAt Fence.wide (n - 1) Try.prog L #[.slice A' m c'] W fun e W' => (e = .returned (.bool true) ∧ J (k + 1) W' ∧ Boxed W' Bl 30 (.slice A' q.length c')) ∨ (e = .returned (.bool false) ∧ Jx W'))
    (W : World) (h0 : J 0 W) (hbl : Boxed W Bl 30 (.slice A l.length c)) :
    CallsIn Fence.wide n Try.prog 119 #[.func (.yield L) #[] #[], .pointer (some ⟨Bl, 0, none⟩), .pointer (some ⟨Bs, 0, none⟩)] W fun e W' => (∃ v, e = .returned v) ∧ (J N W' ∨ Jx W') := by
  have HN := Lib.hid hN
  clear hN
  refine callsIn_of_wp Try.func119 rfl trivial ?_ rfl
  simp only [Try.ntmps119, List.size_toArray, List.length_cons, List.length_nil, Nat.reduceAdd, Nat.reduceSub, Array.replicate_succ, Array.replicate_zero, List.push_toArray, List.append_toArray, List.nil_append, List.cons_append]
  gi_wp2
  gi_loopw [4] (fun _ wr => ∃ (k : Nat) (A' : Option Addr) (c' : Nat) (q : List Int), J k wr ∧ Boxed wr Bl 30 (.slice A' q.length c') ∧ q.length ≤ c' ∧ c' ≤ 9223372036854775807 ∧ RdI w0 .u8 A' q ∧ Hid (l.drop (3 * k) = q) ∧ 3 * k < l.length + 3) (fun _ wr => lenCell wr Bl)
  case atStart => exact ⟨0, A, c, l, h0, hbl, hlc, hc9, hr, Lib.hid (by simp), by omega⟩
  case round =>
    obtain ⟨k, A', c', q, hJ, hB, hcl, hcc, hra, hq, hkl⟩ := hrel
    have hb1 := hB.cell
    have hcw2 := (hJb k wr hJ).2.cell
    by_cases hp : 0 < q.length
    · have d1 : (0 : Int) < (q.length : Int) := by omega
      have hkn : 3 * k + q.length = l.length := by
        have h := congrArg List.length hq.out
        rw [List.length_drop] at h
        omega
      by_cases hs : 3 ≤ q.length
      · have m1 : min (3 : Int) (q.length : Int) = 3 := by omega
        have s1 : (3 : Int) ≤ (c' : Int) := by omega
        have s2 : (3 : Int) ≤ (q.length : Int) := by omega
        obtain ⟨fn, tmps, assign, body, hy, hR⟩ := hY k A' c' 3 q wr hJ hB hra hq.out hp (by omega)
        have HKN := Lib.hid hkn
        clear hkn
        by_cases hct : c' = 3
        · subst hct
          gi_wp2
          refine hR.mono ?_
          rintro e W3 (⟨rfl, hJ3, hb3⟩ | ⟨rfl, hx3⟩)
          · have hJ4 := hJs _ _ (.slice A' 0 0) hJ3
            have hfz := hb3.frozen
            have hc3 := hb3.cell
            have hcw3 := (hJb _ W3 hJ3).2.cell
            have hb4 := hb3.set (.slice A' 0 0)
            have HJ4 := Lib.hid hJ4
            have HB4 := Lib.hid hb4
            clear hJ4 hb4 hJ3
            gi_wp2
            refine ⟨⟨k + 1, A', 0, q.drop q.length, HJ4.out, by rw [List.length_drop, Nat.sub_self]; exact HB4.out, by rw [List.length_drop]; omega, by omega, (by rw [List.drop_length]; exact RdI.nil _ _ _), Lib.hid (by rw [List.drop_length]; exact List.drop_eq_nil_of_le (by have := HKN.out; omega)), by have := HKN.out; omega⟩, by rw [lenCell_boxed HB4.out, lenCell_boxed hB]; omega⟩
          · gi_wp2
            refine bodyPost_ret (results_none rfl _ _ _) rfl ?_
            exact ⟨⟨_, rfl⟩, .inr hx3⟩
        · gi_wp2
          refine hR.mono ?_
          rintro e W3 (⟨rfl, hJ3, hb3⟩ | ⟨rfl, hx3⟩)
          · have hJ4 := hJs _ _ (.slice (A'.map fun x => (⟨x.block, x.off + 3, none⟩ : Addr)) (q.length - 3) (c' - 3)) hJ3
            have hfz := hb3.frozen
            have hc3 := hb3.cell
            have hcw3 := (hJb _ W3 hJ3).2.cell
            have hb4 := hb3.set (.slice (A'.map fun x => (⟨x.block, x.off + 3, none⟩ : Addr)) (q.length - 3) (c' - 3))
            have HJ4 := Lib.hid hJ4
            have HB4 := Lib.hid hb4
            clear hJ4 hb4 hJ3
            gi_wp2
            refine ⟨⟨k + 1, (A'.map fun x => (⟨x.block, x.off + 3, none⟩ : Addr)), (c' - 3), q.drop 3, HJ4.out, by rw [List.length_drop]; exact HB4.out, by rw [List.length_drop]; omega, by omega, (by have h := hra.cut (c := c') 3 (by omega); rw [if_neg hct, map_addF] at h; exact h), Lib.hid (by have h := hq.out; rw [← h, List.drop_drop, show 3 * k + 3 = 3 * (k + 1) by omega]), by have := HKN.out; omega⟩, by rw [lenCell_boxed HB4.out, lenCell_boxed hB]; omega⟩
          · gi_wp2
            refine bodyPost_ret (results_none rfl _ _ _) rfl ?_
            exact ⟨⟨_, rfl⟩, .inr hx3⟩
      · have m1 : min (3 : Int) (q.length : Int) = (q.length : Int) := by omega
        have s1 : (q.length : Int) ≤ (c' : Int) := by omega
        obtain ⟨fn, tmps, assign, body, hy, hR⟩ := hY k A' c' q.length q wr hJ hB hra hq.out hp (by omega)
        have HKN := Lib.hid hkn
        clear hkn
        by_cases hct : c' = q.length
        · subst hct
          gi_wp2
          refine hR.mono ?_
          rintro e W3 (⟨rfl, hJ3, hb3⟩ | ⟨rfl, hx3⟩)
          · have hJ4 := hJs _ _ (.slice A' 0 0) hJ3
            have hfz := hb3.frozen
            have hc3 := hb3.cell
            have hcw3 := (hJb _ W3 hJ3).2.cell
            have hb4 := hb3.set (.slice A' 0 0)
            have HJ4 := Lib.hid hJ4
            have HB4 := Lib.hid hb4
            clear hJ4 hb4 hJ3
            gi_wp2
            refine ⟨⟨k + 1, A', 0, q.drop q.length, HJ4.out, by rw [List.length_drop, Nat.sub_self]; exact HB4.out, by rw [List.length_drop]; omega, by omega, (by rw [List.drop_length]; exact RdI.nil _ _ _), Lib.hid (by rw [List.drop_length]; exact List.drop_eq_nil_of_le (by have := HKN.out; omega)), by have := HKN.out; omega⟩, by rw [lenCell_boxed HB4.out, lenCell_boxed hB]; omega⟩
          · gi_wp2
            refine bodyPost_ret (results_none rfl _ _ _) rfl ?_
            exact ⟨⟨_, rfl⟩, .inr hx3⟩
        · gi_wp2
          refine hR.mono ?_
          rintro e W3 (⟨rfl, hJ3, hb3⟩ | ⟨rfl, hx3⟩)
          · have hJ4 := hJs _ _ (.slice (A'.map fun x => x.add q.length) 0 (c' - q.length)) hJ3
            have hfz := hb3.frozen
            have hc3 := hb3.cell
            have hcw3 := (hJb _ W3 hJ3).2.cell
            have hb4 := hb3.set (.slice (A'.map fun x => x.add q.length) 0 (c' - q.length))
            have HJ4 := Lib.hid hJ4
            have HB4 := Lib.hid hb4
            clear hJ4 hb4 hJ3
            gi_wp2
            refine ⟨⟨k + 1, (A'.map fun x => x.add q.length), (c' - q.length), q.drop q.length, HJ4.out, by rw [List.length_drop, Nat.sub_self]; exact HB4.out, by rw [List.length_drop]; omega, by omega, (by rw [List.drop_length]; exact RdI.nil _ _ _), Lib.hid (by rw [List.drop_length]; exact List.drop_eq_nil_of_le (by have := HKN.out; omega)), by have := HKN.out; omega⟩, by rw [lenCell_boxed HB4.out, lenCell_boxed hB]; omega⟩
          · gi_wp2
            refine bodyPost_ret (results_none rfl _ _ _) rfl ?_
            exact ⟨⟨_, rfl⟩, .inr hx3⟩
    · have hz : q = [] := List.eq_nil_of_length_eq_zero (by omega)
      have hkn : l.length ≤ 3 * k := by
        have h := congrArg List.length hq.out
        rw [List.length_drop, hz] at h
        simp at h
        omega
      have HE := Lib.hid (show k = N by have := HN.out; omega)
      have HJ := Lib.hid hJ
      have d1 : ¬ (0 : Int) < (q.length : Int) := by omega
      clear hJ hz hkn
      gi_wp2
      go_end0
      exact ⟨⟨_, rfl⟩, .inl (by have h := HJ.out; rw [HE.out] at h; exact h)⟩

end Go.Proofs.Ytachkhjbckapoaa

namespace Go.Proofs.Ytachkhjbckapoaa
open Go.RowKit
set_option linter.unusedVariables false
set_option maxRecDepth 100000

theorem signs_nat : ∀ y : Fin 45, ((([48, 49, 50, 51, 52, 53, 54, 55, 56, 57, 65, 66, 67, 68, 69, 70, 71, 72, 73, 74, 75, 76, 77, 78, 79, 80, 81, 82, 83, 84, 85, 86, 87, 88, 89, 90, 32, 36, 37, 42, 43, 45, 46, 47, 58] : List UInt8).getD y.val 0).toNat : Int) = sg45 (y.val : Int) := by decide
theorem signs_at (s : ByteArray) (L : List UInt8) (hs : s = ⟨L.toArray⟩) (i : Nat) (hi : i < s.size) : s[i] = L.getD i 0 := by
  subst hs
  have h2 : i < L.length := hi
  show L.toArray[i] = _
  simp [h2]
theorem idx_signs {z : Int} (h0 : 0 ≤ z) (h1 : z < 45) (w : World) : (Instr.index 9 (.string { data := #[48, 49, 50, 51, 52, 53, 54, 55, 56, 57, 65, 66, 67, 68, 69, 70, 71, 72, 73, 74, 75, 76, 77, 78, 79, 80, 81, 82, 83, 84, 85, 86, 87, 88, 89, 90, 32, 36, 37, 42, 43, 45, 46, 47, 58] }) (.int .i64 z)).run Try.prog w = .ok (.int .u8 (sg45 z)) w := by
  obtain ⟨y, rfl⟩ := Int.eq_ofNat_of_zero_le h0
  obtain ⟨s, hs⟩ : ∃ s : ByteArray, s = { data := #[48, 49, 50, 51, 52, 53, 54, 55, 56, 57, 65, 66, 67, 68, 69, 70, 71, 72, 73, 74, 75, 76, 77, 78, 79, 80, 81, 82, 83, 84, 85, 86, 87, 88, 89, 90, 32, 36, 37, 42, 43, 45, 46, 47, 58] } := ⟨_, rfl⟩
  have hz : s.size = 45 := by rw [hs]; rfl
  rw [← hs, run_index_string _ _ _ _ _ (by rfl), dif_pos ⟨by omega, by rw [hz]; omega⟩]
  have e := signs_nat ⟨y, by omega⟩
  have e2 := signs_at s _ hs y (by rw [hz]; omega)
  have e3 : ((y : Int)).toNat = y := by omega
  simp only [e3, e2]
  simp only at e
  rw [← e]
end Go.Proofs.Ytachkhjbckapoaa

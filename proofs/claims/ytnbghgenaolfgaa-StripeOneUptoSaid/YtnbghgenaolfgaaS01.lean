/- An argument that is a slice of keys: it reads as a list of keys. Digits as a number: what bcd.Get and its reference compute, for every row of bytes. A number as digits: what bcd.Put and its reference compute, for every number and width. A number as digits, the reference's side: gatelineref12.Put computes the same digits and the same error as bcd.Put. Numbers as digits, one behind the other: what bcd.Join and its reference compute, for all numbers and widths. Words on arrays: built, stored and loaded whole, read at an index. No condition. -/
import Derived.Test.YtnbghgenaolfgaaS00
import Derived.ChangeArms
import Derived.DataReads
import Derived.LoopTactic
import Derived.IntWalk
import Derived.Deep.RegionHeld3
import Derived.Deep.RegionWith
import Derived.Laws.CopyOwn
import Derived.Laws.Tables
import Derived.StillTailTactics
import Derived.Deep.QuietTactic
import Derived.BigQuiet
import Derived.Deep.RegionLaw
namespace Go.Proofs.Ytnbghgenaolfgaa
open Go.RowKit
set_option linter.unusedVariables false
set_option maxRecDepth 100000
set_option linter.unusedSimpArgs false

/-- The four cells of a key that was laid: a number, a slice of bytes, two numbers. -/
theorem key_cells {H : Type} {enc : TypeId × Value → H} {W : World} {n : Nat} {cs : List Value} {x : DataW H × List MemPlace} (hl : cs.length = 4) (h : DataW.trod enc Try.prog W 0 (fun _ => true) true n 28 cs = some x) :
    ∃ (id fr til : Int) (B : Option Addr) (c : Nat) (sec : List Int), cs = [.int .i64 id, .slice B sec.length c, .int .i64 fr, .int .i64 til] ∧ sec.length ≤ c ∧ c ≤ 9223372036854775807 ∧ RdI W .u8 B sec ∧ ∀ b ∈ sec, 0 ≤ b ∧ b < 256 := by
  have L := open_leaves 6 28 (by kernel_rfl) n _ _ (by rw [hl]; kernel_rfl) h
  rw [show leavesOf Try.prog 6 28 = [3, 26, 3, 3] from by kernel_rfl] at L
  obtain ⟨c0, m0, rfl, g0, L⟩ := Lv_cons L
  obtain ⟨c1, m1, rfl, g1, L⟩ := Lv_cons L
  obtain ⟨c2, m2, rfl, g2, L⟩ := Lv_cons L
  obtain ⟨c3, m3, rfl, g3, L⟩ := Lv_cons L
  obtain rfl := Lv_nil L
  obtain ⟨id, rfl, _⟩ := leaf_int Try.underlying3 g0
  obtain ⟨fr, rfl, _⟩ := leaf_int Try.underlying3 g2
  obtain ⟨til, rfl, _⟩ := leaf_int Try.underlying3 g3
  obtain ⟨B, len, c, zs, rfl, hz⟩ := leaf_row Try.underlying26 Try.underlying5 (by kernel_rfl) g1
  obtain ⟨k1, k2⟩ := row_caps hz
  obtain ⟨sec, rfl, r1, r2, r3⟩ := rd_of_row hz
  exact ⟨id, fr, til, B, c, sec, rfl, k1, k2, r1, wfu8 r3⟩
theorem keys_upto {w : World} {a : Addr} : ∀ (n : Nat), (∀ j, j < n → ∃ k, KeyAt w (a.add (j * 4)) k) → ∃ l : List Ky, l.length = n ∧ ∀ j, (h : j < l.length) → KeyAt w (a.add (j * 4)) l[j]
  | 0, _ => ⟨[], rfl, fun j h => by simp at h⟩
  | n + 1, h => by
    obtain ⟨l, hl, hk⟩ := keys_upto n (fun j hj => h j (by omega))
    obtain ⟨k, hkn⟩ := h n (by omega)
    refine ⟨l ++ [k], by simp [hl], fun j hj => ?_⟩
    rw [List.length_append] at hj
    by_cases hjl : j < l.length
    · rw [List.getElem_append_left hjl]; exact hk j hjl
    · have : j = n := by simp at hj; omega
      subst this
      rw [List.getElem_append_right (by omega)]
      simpa [hl] using hkn
theorem keys_open {H : Type} {enc : TypeId × Value → H} {W : World} {n : Nat} {A : Option Addr} {len cap : Nat} {x : DataW H × List MemPlace} (h : DataW.trod enc Try.prog W 0 (fun _ => true) true n 31 [.slice A len cap] = some x) :
    ∃ ks : List Ky, len = ks.length ∧ RdK W A ks ∧ ks.length ≤ 9223372036854775807 := by
  rcases DataW.trod_slice Try.underlying31 h with ⟨hcs, _⟩ | ⟨a, len2, cap2, elems, rest, m, _, hcs, _, _, hle, hmx, hel, hat, _⟩
  · simp only [List.cons.injEq, Value.slice.injEq, and_true] at hcs
    obtain ⟨rfl, rfl, rfl⟩ := hcs
    exact ⟨[], rfl, .inl rfl, by simp⟩
  · simp only [List.cons.injEq, Value.slice.injEq, and_true] at hcs
    obtain ⟨rfl, rfl, rfl⟩ := hcs
    have hc4 : Try.prog.cellsOf 28 = 4 := by kernel_rfl
    rw [hc4] at hat
    have hk : ∀ j, j < len → ∃ k, KeyAt W (a.add (j * 4)) k := by
      intro j hj
      have e := hat j hj
      rw [List.getElem?_eq_getElem (by omega)] at e
      obtain ⟨cs, e1, e2⟩ := Option.bind_eq_some_iff.1 e
      obtain ⟨_, f2, f3⟩ := World.cells?_some e1
      obtain ⟨id, fr, til, B, c, sec, rfl, k1, k2, k3, k4⟩ := key_cells f2 e2
      have g0 := f3 0 (by omega)
      have g1 := f3 1 (by omega)
      have g2 := f3 2 (by omega)
      have g3 := f3 3 (by omega)
      rw [add_zero] at g0
      rw [show (a.add (j * 4)).add 1 = ⟨(a.add (j * 4)).block, (a.add (j * 4)).off + 1, none⟩ from add_succ _ 0] at g1
      rw [show (a.add (j * 4)).add 2 = ⟨(a.add (j * 4)).block, (a.add (j * 4)).off + 2, none⟩ from add_succ _ 1] at g2
      rw [show (a.add (j * 4)).add 3 = ⟨(a.add (j * 4)).block, (a.add (j * 4)).off + 3, none⟩ from add_succ _ 2] at g3
      exact ⟨⟨id, sec, fr, til⟩, B, c, g0, g1, g2, g3, k1, k2, k3, k4⟩
    obtain ⟨ks, hkl, hks⟩ := keys_upto len hk
    unfold maxLen at hmx
    refine ⟨ks, hkl.symm, ?_, by omega⟩
    by_cases h0 : len = 0
    · left; exact List.eq_nil_of_length_eq_zero (by omega)
    · obtain ⟨k, B, c, g0, _⟩ := hk 0 (by omega)
      have := World.block_lt_of_cell? W _ g0
      rw [add_block] at this
      exact .inr ⟨a, rfl, this, hks⟩
end Go.Proofs.Ytnbghgenaolfgaa

namespace Go.Proofs.Ytnbghgenaolfgaa
open Go.RowKit
set_option linter.unusedVariables false
set_option maxRecDepth 100000
set_option linter.unusedSimpArgs false

/-- The number and the error of a row of digits, n being the number so far. -/
def getGo : List Int → Int → Int × Int
  | [], n => (n, 0)
  | d :: l, n => if 9 < d then (0, 7) else getGo l (10 * n + d)
def getR (l : List Int) : Int × Int := if 18 < l.length then (0, 1) else getGo l 0

theorem getGo_cons (d : Int) (l : List Int) (n : Int) : getGo (d :: l) n = if 9 < d then (0, 7) else getGo l (10 * n + d) := rfl
theorem getR_long {l : List Int} (h : 18 < l.length) : getR l = (0, 1) := by unfold getR; rw [if_pos h]
theorem getR_short {l : List Int} (h : ¬ 18 < l.length) : getR l = getGo l 0 := by unfold getR; rw [if_neg h]

theorem ret2 {k k' : IntKind} {a b a' b' : Int} (h : a = a') (h' : b = b') : Ending.returned (.tuple #[.int k a, .int k' b]) = .returned (.tuple #[.int k a', .int k' b']) := by rw [h, h']
theorem pow10_le {k : Nat} (h : k ≤ 17) : (10 : Int) ^ k ≤ 100000000000000000 := by
  have : (10 : Nat) ^ k ≤ 10 ^ 17 := Nat.pow_le_pow_right (by omega) h
  have e : ((10 ^ k : Nat) : Int) = (10 : Int) ^ k := by simp
  rw [← e]; omega

set_option maxHeartbeats 2000000 in
theorem bcdGet_any (A : Option Addr) (c : Nat) (l : List Int) (w : World) (hr : RdI w .u8 A l) (hb : ∀ x ∈ l, 0 ≤ x ∧ x < 256) :
    Calls Try.prog 157 #[.slice A l.length c] w fun e w' => e = .returned (.tuple #[.int .i64 (getR l).1, .int .i64 (getR l).2]) ∧ w = w' := by
  by_cases hl : 18 < l.length
  · have E := Lib.hid (getR_long hl)
    go_enter Try.func157, Try.ntmps157
    go_wp2
    go_ret2
    exact ⟨by rw [E.out] <;> rfl, rfl⟩
  · have E := Lib.hid (getR_short hl)
    go_enter Try.func157, Try.ntmps157
    go_wp2
    go_loop [4, 12] (fun n i => ∃ (k : Nat) (m : Int), k ≤ l.length ∧ i = .int .i64 k ∧ n = .int .i64 m ∧ 0 ≤ m ∧ m < 10 ^ k ∧ Hid (getGo (l.drop k) m = getGo l 0)) (fun n i => l.length - (intOf i).toNat)
    case atStart => exact ⟨0, 0, Nat.zero_le _, rfl, rfl, by omega, by simp, Lib.hid (by simp)⟩
    case round =>
      obtain ⟨k, m, hk, rfl, rfl, h0, h1, hg⟩ := hrel
      by_cases hlt : k < l.length
      · obtain ⟨ad, rfl, hc⟩ := hr.at_ hlt
        have hd := hb (l.getD k 0) (getD_mem hlt)
        have hp := pow10_le (k := k) (by omega)
        have hm : m < 100000000000000000 := by omega
        have hs : (10 : Int) ^ (k + 1) = 10 * 10 ^ k := by rw [Int.pow_succ]; omega
        have hn : 10 * m + l.getD k 0 < 10 ^ (k + 1) ∨ 9 < l.getD k 0 := by omega
        have H1 := Lib.hid hn
        have e := hg.out
        rw [drop_cons hlt, getGo_cons] at e
        have He := Lib.hid e
        clear hs hn e hg hp h1
        generalize l.getD k 0 = d at *
        by_cases h9 : 9 < d
        · go_wp2
          go_ret2
          have e := He.out
          rw [if_pos h9] at e
          exact ⟨by rw [E.out, ← e] <;> rfl, rfl⟩
        · go_wp2
          go_round
          case rel => exact ⟨k + 1, 10 * m + d, by omega, by go_num, rfl, by omega, by have := H1.out; omega, Lib.hid (by have e := He.out; rw [if_neg h9] at e; exact e)⟩
          case measure => simp [intOf]; omega
      · have hkl : k = l.length := by omega
        have e := hg.out
        rw [List.drop_eq_nil_of_le (by omega)] at e
        have He := Lib.hid e
        clear e hg hkl
        go_wp2
        go_ret2
        exact ⟨by rw [E.out, ← He.out] <;> rfl, rfl⟩


end Go.Proofs.Ytnbghgenaolfgaa

namespace Go.Proofs.Ytnbghgenaolfgaa
open Go.RowKit
set_option linter.unusedVariables false
set_option maxRecDepth 100000
set_option linter.unusedSimpArgs false

theorem infoU8 : (Try.prog.info? 5).map (fun i => (i.zero, i.size, i.bytes)) = some (some (.int .u8 0), 1, 1) := by kernel_rfl
theorem infoI64 : (Try.prog.info? 3).map (fun i => (i.zero, i.size, i.bytes)) = some (some (.int .i64 0), 1, 8) := by kernel_rfl

/-- The last w digits of n. -/
def dg : Nat → Int → List Int
  | 0, _ => []
  | w + 1, n => n / 10 ^ w % 10 :: dg w n
theorem dg_succ (w : Nat) (n : Int) : dg (w + 1) n = n / 10 ^ w % 10 :: dg w n := rfl
theorem dg_len (w : Nat) (n : Int) : (dg w n).length = w := by
  induction w with
  | zero => rfl
  | succ w ih => simp [dg, ih]
theorem dg_byte (w : Nat) (n : Int) : ∀ x ∈ dg w n, 0 ≤ x ∧ x < 10 := by
  induction w with
  | zero => simp [dg]
  | succ w ih =>
    intro x hx
    rcases List.mem_cons.1 hx with rfl | hx
    · omega
    · exact ih x hx
theorem div_step (n : Int) (k : Nat) : n / 10 ^ k / 10 = n / 10 ^ (k + 1) := by
  rw [Int.pow_succ, Int.ediv_ediv_of_nonneg (by exact Int.pow_nonneg (by omega))]
def putL (n wd : Int) : List Int := if n < 0 ∨ wd < 0 ∨ 18 < wd ∨ 0 < n / 10 ^ wd.toNat then [] else dg wd.toNat n
def putE (n wd : Int) : Int := if n < 0 ∨ wd < 0 ∨ 18 < wd then 1 else if 0 < n / 10 ^ wd.toNat then 23 else 0
theorem putL_arg {n wd : Int} (h : n < 0 ∨ wd < 0 ∨ 18 < wd) : putL n wd = [] := by unfold putL; rw [if_pos (by omega)]
theorem putE_arg {n wd : Int} (h : n < 0 ∨ wd < 0 ∨ 18 < wd) : putE n wd = 1 := by unfold putE; rw [if_pos h]
theorem putL_over {n : Int} {k : Nat} (h : 0 < n / 10 ^ k) : putL n k = [] := by unfold putL; rw [if_pos (by simp [h])]
theorem putE_over {n : Int} {k : Nat} (h0 : 0 ≤ n) (h1 : k ≤ 18) (h : 0 < n / 10 ^ k) : putE n k = 23 := by unfold putE; rw [if_neg (by omega), if_pos (by simpa using h)]
theorem putL_ok {n : Int} {k : Nat} (h0 : 0 ≤ n) (h1 : k ≤ 18) (h : ¬ 0 < n / 10 ^ k) : putL n k = dg k n := by
  unfold putL; rw [if_neg (by simp only [Int.toNat_natCast]; omega)]; simp
theorem putE_ok {n : Int} {k : Nat} (h0 : 0 ≤ n) (h1 : k ≤ 18) (h : ¬ 0 < n / 10 ^ k) : putE n k = 0 := by unfold putE; rw [if_neg (by omega), if_neg (by simpa using h)]

theorem repl_set (a : Nat) (d : Int) (l : List Int) : ((List.replicate (a + 1) (0 : Int) ++ l).map (Value.int .u8)).set a (.int .u8 d) = (List.replicate a (0 : Int) ++ d :: l).map (Value.int .u8) := by
  rw [← List.map_set, List.replicate_succ']
  simp [List.set_append]

/-- What a digits' row is, behind Put. -/
def PutRet (n wd : Int) (w : World) (e : Ending) (w' : World) : Prop :=
  ∃ v, e = .returned (.tuple #[v, .int .i64 (putE n wd)]) ∧ w'.ownsRow w.heap.size 5 1 v (putL n wd).length ((putL n wd).map (.int .u8)) ∧ Below w.heap.size w w'

set_option maxHeartbeats 2000000 in
theorem bcdPut_nat (n : Int) (W : Nat) (w : World) (h0 : 0 ≤ n) (h9 : n ≤ 9223372036854775807) (hW : W ≤ 18) :
    Calls Try.prog 131 #[.int .i64 n, .int .i64 W] w (PutRet n W w) := by
  obtain ⟨i0, hi, hz0, hz1, hz2⟩ := info_parts infoU8
  go_enter Try.func131, Try.ntmps131
  go_wp2_with (first
    | (at_make; refine wpList_make_full _ rfl _ _ 26 rfl w.heap.size 5 i0 (.int .u8 0) 1 Try.underlying26 hi hz0 hz1 .i64 .i64 _ _ W rfl rfl rfl rfl (by rw [hz2]; omega) (by unfold maxLen; omega) (Nat.le_refl _) ?_; intro w1 hown hg))
  have hown2 : w1.ownsRow w.heap.size 5 1 (.slice (some ⟨w.heap.size, 0, none⟩) W W) W ((List.replicate (W - 0) (0 : Int) ++ dg 0 n).map (.int .u8)) := by
    have e : (madeCells (Value.int .u8 0).cells (W * 1)).toList = (List.replicate (W - 0) (0 : Int) ++ dg 0 n).map (.int .u8) := by
      show (madeCells #[Value.int .u8 0] (W * 1)).toList = _
      rw [toList_madeCells_one]; simp [dg]
    rw [← e]; exact hown
  clear hown
  go_loopw [0, 22] (fun nn i wr => ∃ k : Nat, k ≤ W ∧ i = .int .i64 k ∧ nn = .int .i64 (n / 10 ^ k) ∧ wr.ownsRow w.heap.size 5 1 (.slice (some ⟨w.heap.size, 0, none⟩) W W) W ((List.replicate (W - k) (0 : Int) ++ dg k n).map (.int .u8)) ∧ Below w.heap.size w wr) (fun _ i _ => W - (intOf i).toNat)
  case atStart => exact ⟨0, Nat.zero_le _, rfl, by simp, hown2, bG (bR _) hg (fun k h => by cases h)⟩
  case round =>
    obtain ⟨k, hk, rfl, rfl, ho, hbl⟩ := hrel
    have hq := div_step n k
    have HQ := Lib.hid hq
    have hq0 : 0 ≤ n / 10 ^ k := Int.ediv_nonneg h0 (Int.pow_nonneg (by omega))
    have hq9 : n / 10 ^ k ≤ 9223372036854775807 := Int.le_trans (Int.ediv_le_self _ h0) h9
    by_cases hlt : k < W
    · obtain ⟨j, rfl⟩ : ∃ j, W = k + 1 + j := ⟨W - k - 1, by omega⟩
      have HD := Lib.hid (dg_succ k n)
      have HS := Lib.hid (repl_set j (n / 10 ^ k % 10) (dg k n))
      have ho2 := ho
      rw [show k + 1 + j - k = j + 1 by omega] at ho2
      have hcell := ho2.cellAt j (by omega)
      rw [List.getElem?_eq_getElem (by simp; omega)] at hcell
      have hfr := ho2.frozenAt j
      have HO := Lib.hid (ho2.stored j (.int .u8 (n / 10 ^ k % 10)))
      clear ho ho2 hown2 hg hq
      generalize n / 10 ^ k = q at *
      have hx : ((k + 1 + j : Nat) : Int) - 1 - (k : Int) = (j : Int) := by omega
      go_wp2
      go_roundw
      case rel => exact ⟨k + 1, by omega, by go_num, by rw [HQ.out], by have h := HO.out.1; rw [HS.out] at h; rw [HD.out, show k + 1 + j - (k + 1) = j by omega]; exact h, bS hbl (Nat.le_refl _)⟩
      case measure => simp [intOf]; omega
    · obtain rfl : k = W := by omega
      have ho2 : wr.ownsRow w.heap.size 5 1 (.slice (some ⟨w.heap.size, 0, none⟩) k k) (dg k n).length ((dg k n).map (.int .u8)) := by
        rw [Nat.sub_self] at ho; simp only [List.replicate_zero, List.nil_append] at ho; rw [dg_len]; exact ho
      by_cases hov : 0 < n / 10 ^ k
      · have E1 := Lib.hid (putL_over hov)
        have E2 := Lib.hid (putE_over h0 hW hov)
        have HO2 := Lib.hid ho2
        clear ho hown2 hq HQ hg ho2
        go_wp2
        go_ret2
        exact ⟨_, by rw [E2.out] <;> rfl, by rw [E1.out]; exact World.ownsRow_nil _ _ _ _, hbl⟩
      · have E1 := Lib.hid (putL_ok h0 hW hov)
        have E2 := Lib.hid (putE_ok h0 hW hov)
        have HO2 := Lib.hid ho2
        clear ho hown2 hq HQ hg ho2
        go_wp2
        go_ret2
        exact ⟨_, by rw [E2.out] <;> rfl, by rw [E1.out]; exact HO2.out, hbl⟩

theorem bcdPut_any (n wd : Int) (w : World) (h9 : n ≤ 9223372036854775807) : Calls Try.prog 131 #[.int .i64 n, .int .i64 wd] w (PutRet n wd w) := by
  by_cases h : n < 0 ∨ wd < 0 ∨ 18 < wd
  · have E1 := Lib.hid (putL_arg h)
    have E2 := Lib.hid (putE_arg h)
    by_cases h1 : n < 0
    · go_enter Try.func131, Try.ntmps131
      go_wp2
      go_ret2
      exact ⟨_, by rw [E2.out] <;> rfl, by rw [E1.out]; exact World.ownsRow_nil _ _ _ _, bR _⟩
    · by_cases h2 : wd < 0
      · go_enter Try.func131, Try.ntmps131
        go_wp2
        go_ret2
        exact ⟨_, by rw [E2.out] <;> rfl, by rw [E1.out]; exact World.ownsRow_nil _ _ _ _, bR _⟩
      · have h3 : 18 < wd := by omega
        go_enter Try.func131, Try.ntmps131
        go_wp2
        go_ret2
        exact ⟨_, by rw [E2.out] <;> rfl, by rw [E1.out]; exact World.ownsRow_nil _ _ _ _, bR _⟩
  · obtain ⟨W, rfl⟩ := Int.eq_ofNat_of_zero_le (show 0 ≤ wd by omega)
    exact bcdPut_nat n W w (by omega) h9 (by omega)
end Go.Proofs.Ytnbghgenaolfgaa

namespace Go.Proofs.Ytnbghgenaolfgaa
open Go.RowKit
set_option linter.unusedVariables false
set_option maxRecDepth 100000
set_option linter.unusedSimpArgs false

end Go.Proofs.Ytnbghgenaolfgaa

namespace Go.Proofs.Ytnbghgenaolfgaa
open Go.RowKit
set_option linter.unusedVariables false
set_option maxRecDepth 100000
set_option linter.unusedSimpArgs false

def joinGo : List Int → List Int → List Int → List Int × Int
  | v :: vs, w :: ws, acc => if putE v w ≠ 0 then ([], putE v w) else joinGo vs ws (acc ++ putL v w)
  | _, _, acc => (acc, 0)
theorem joinGo_cons (v w : Int) (vs ws acc : List Int) : joinGo (v :: vs) (w :: ws) acc = if putE v w ≠ 0 then ([], putE v w) else joinGo vs ws (acc ++ putL v w) := rfl
def joinR (l m : List Int) : List Int × Int := if l.length ≠ m.length ∨ 20 < l.length then ([], 1) else joinGo l m []
theorem joinR_arg {l m : List Int} (h : l.length ≠ m.length ∨ 20 < l.length) : joinR l m = ([], 1) := by unfold joinR; rw [if_pos h]
theorem joinR_go {l m : List Int} (h : l.length = m.length) (h' : ¬ 20 < l.length) : joinR l m = joinGo l m [] := by unfold joinR; rw [if_neg (by omega)]
theorem putL_len (n wd : Int) : (putL n wd).length ≤ 18 := by
  unfold putL; split
  · simp
  · rw [dg_len]; omega
theorem keep_cell {W w9 : World} {a : Addr} {v : Value} (hb : Below W.heap.size W w9) (hc : W.cell? a = some v) : w9.cell? a = some v := (hb.cell (World.block_lt_of_cell? W a hc)).trans hc
theorem keep2 {W w9 : World} {a b : Addr} {u v : Value} (h : W.cell? a = some u ∧ W.cell? b = some v) (hb : Below W.heap.size W w9) : w9.cell? a = some u ∧ w9.cell? b = some v := ⟨keep_cell hb h.1, keep_cell hb h.2⟩
theorem own_drw (b : Bool) {w : World} {base e n size : Nat} {v : Value} {cs : List Value} (h : w.ownsRow base e size v n cs) : (if b then w.drew else w).ownsRow base e size v n cs := by cases b <;> exact h

def JoinRet (l m : List Int) (w : World) (e : Ending) (w' : World) : Prop :=
  ∃ v, e = .returned (.tuple #[v, .int .i64 (joinR l m).2]) ∧ w'.ownsRow w.heap.size 5 1 v (joinR l m).1.length ((joinR l m).1.map (.int .u8)) ∧ Below w.heap.size w w'

set_option maxHeartbeats 4000000 in
set_option maxRecDepth 100000 in
theorem bcdJoin_any (A B : Option Addr) (c d : Nat) (l m : List Int) (w : World) (hr : RdI w .i64 A l) (hs : RdI w .i64 B m) (hl : l.length ≤ 9223372036854775807) (hm : m.length ≤ 9223372036854775807) (hv : ∀ x ∈ l, x ≤ 9223372036854775807) :
    Calls Try.prog 90 #[.slice A l.length c, .slice B m.length d] w (JoinRet l m w) := by
  by_cases hlen : l.length = m.length
  · have hd : ((l.length : Int) != (m.length : Int)) = false := by simp only [bne_eq_false_iff_eq]; omega
    by_cases h20 : 20 < l.length
    · have E := Lib.hid (joinR_arg (m := m) (.inr h20))
      clear hlen
      go_enter Try.func90, Try.ntmps90
      go_wp2
      go_ret2
      exact ⟨_, by rw [E.out] <;> rfl, by rw [E.out]; exact World.ownsRow_nil _ _ _ _, bR _⟩
    · have E := Lib.hid (joinR_go hlen h20)
      obtain ⟨i0, hi, hz0, hz1, hz2⟩ := info_parts infoU8
      have HL := Lib.hid hlen
      have hle : l.length ≤ m.length := by omega
      clear hlen
      go_enter Try.func90, Try.ntmps90
      go_wp2
      go_loopw [6, 23] (fun v i wr => ∃ (k : Nat) (acc : List Int), k ≤ l.length ∧ i = .int .i64 k ∧ wr.ownsRow w.heap.size 5 1 v acc.length (acc.map (.int .u8)) ∧ acc.length ≤ 18 * k ∧ Below w.heap.size w wr ∧ Hid (joinGo (l.drop k) (m.drop k) acc = joinGo l m [])) (fun v i _ => l.length - (intOf i).toNat)
      case atStart => exact ⟨0, [], Nat.zero_le _, rfl, World.ownsRow_nil _ _ _ _, by simp, (by repeat (first | (with_reducible exact bR _) | (with_reducible refine bT ?_ (by assumption)) | (with_reducible apply bA) | (with_reducible apply bD) | (with_reducible apply bN) | (with_reducible refine bS ?_ (by first | omega | (simp; done) | (simp; omega))))), Lib.hid (by simp)⟩
      case round =>
        obtain ⟨k, acc, hk, rfl, ho, hal, hbl, hg⟩ := hrel
        by_cases hlt : k < l.length
        · have hlt2 : k < m.length := by omega
          obtain ⟨ad, rfl, hc⟩ := (hr.below hbl).at_ hlt
          obtain ⟨bd, rfl, hc2⟩ := (hs.below hbl).at_ hlt2
          have hx := hv _ (getD_mem hlt)
          have e := hg.out
          rw [drop_cons hlt, drop_cons hlt2, joinGo_cons] at e
          have He := Lib.hid e
          clear e hg
          generalize l.getD k 0 = x at *
          generalize m.getD k 0 = y at *
          have HO := Lib.hid ho
          clear ho
          cases hE : (putE x y != 0) with
          | true =>
            have e := He.out
            rw [if_pos (by simpa using hE)] at e
            have He2 := Lib.hid e
            clear e He
            go_wp2_with (first | (go_at_call 131; refine (bcdPut_any _ _ _ (by assumption)).mono ?_; rintro e w1 ⟨pv, rfl, hpo, hb⟩; obtain ⟨pA, pc, rfl, _, _⟩ := own_slice hpo; have hpr := RdI.of_own hpo; have ho2 := own_below (own_drw false HO.out) hb; have hsz := (bT hbl hb).size; have hown := Lib.hid (own_ge ho2); have hpl := putL_len x y; have hbl2 := bT hbl hb; clear hpo) | (at_builtin; refine wpL_app (k := .u8) rfl _ _ 26 rfl w.heap.size 5 i0 (.int .u8 0) 1 Try.underlying26 hi hz0 hz1 hz2 rfl _ acc rfl ho2 _ _ (putL x y) rfl hpr ?_ ?_ ?_ ?_; (focus (exact maxLen_ge (by omega))); (focus omega); (focus omega); intro v2 w2 ho3 hg2 _))
            go_wp2
            go_ret2
            exact ⟨_, by rw [E.out, ← He2.out] <;> rfl, by rw [E.out, ← He2.out]; exact World.ownsRow_nil _ _ _ _, (by repeat (first | (with_reducible exact bR _) | (with_reducible refine bT ?_ (by assumption)) | (with_reducible apply bA) | (with_reducible apply bD) | (with_reducible apply bN) | (with_reducible refine bS ?_ (by first | omega | (simp; done) | (simp; omega)))))⟩
          | false =>
            have e := He.out
            rw [if_neg (by simpa using hE)] at e
            have He2 := Lib.hid e
            clear e He
            go_wp2_with (first | (go_at_call 131; refine (bcdPut_any _ _ _ (by assumption)).mono ?_; rintro e w1 ⟨pv, rfl, hpo, hb⟩; obtain ⟨pA, pc, rfl, _, _⟩ := own_slice hpo; have hpr := RdI.of_own hpo; have ho2 := own_below (own_drw false HO.out) hb; have hsz := (bT hbl hb).size; have hown := Lib.hid (own_ge ho2); have hpl := putL_len x y; have hbl2 := bT hbl hb; clear hpo) | (at_builtin; refine wpL_app (k := .u8) rfl _ _ 26 rfl w.heap.size 5 i0 (.int .u8 0) 1 Try.underlying26 hi hz0 hz1 hz2 rfl _ acc rfl ho2 _ _ (putL x y) rfl hpr ?_ ?_ ?_ ?_; (focus (exact maxLen_ge (by omega))); (focus omega); (focus omega); intro v2 w2 ho3 hg2 _))
            have h2 := bG hbl2 hg2 hown.out
            have HO3 := Lib.hid ho3
            clear hg2 ho3 ho2 hpr
            go_wp2
            go_roundw
            case rel => exact ⟨k + 1, _, by omega, by go_num, HO3.out, by rw [List.length_append]; omega, h2, He2⟩
            case measure => simp [intOf]; omega
        · have e := hg.out
          rw [List.drop_eq_nil_of_le (show l.length ≤ k by omega)] at e
          have e2 : (acc, (0 : Int)) = joinGo l m [] := by rw [← e]; cases m.drop k <;> rfl
          have He := Lib.hid e2
          have HO := Lib.hid ho
          clear e e2 hg ho
          go_wp2
          go_ret2
          exact ⟨_, by rw [E.out, ← He.out] <;> rfl, by rw [E.out, ← He.out]; exact HO.out, hbl⟩
  · have hd : ((l.length : Int) != (m.length : Int)) = true := by simp only [bne_iff_ne, ne_eq]; omega
    have E := Lib.hid (joinR_arg (m := m) (.inl hlen))
    clear hlen
    go_enter Try.func90, Try.ntmps90
    go_wp2
    go_ret2
    exact ⟨_, by rw [E.out] <;> rfl, by rw [E.out]; exact World.ownsRow_nil _ _ _ _, bR _⟩


end Go.Proofs.Ytnbghgenaolfgaa

namespace Go.Proofs.Ytnbghgenaolfgaa
open Go.RowKit
set_option linter.unusedVariables false
set_option maxRecDepth 100000
set_option linter.unusedSimpArgs false

theorem infoB8 : (Try.prog.info? 5).map (fun i => (i.zero, i.size, i.bytes)) = some (some (.int .u8 0), 1, 1) := by kernel_rfl
theorem wpL_build {P : Program} {ops : Array Oper} {rest : List Oper} {o : Oper} {a : Act} {w : World} {Q : Exit → Act → World → Prop} (hg : o.guard = none) (t : TypeId) (parts : Array (Nat × Operand)) (ho : o.op = .build t parts)
    (C : Array Value) (hC : P.built t (parts.map fun (i, x) => (i, a.eval x)).toList = some C)
    (h : wpList P ops Q rest (a.put o.dst (.agg C)) w) : wpList P ops Q (o :: rest) a w :=
  wpList_build hg t parts ho (by rw [hC]; rfl) (by rw [hC]; exact h)
/-- A block that was just made. -/
theorem new_block (w : World) (o : Obj) : ∃ w1, w.alloc o = w1 ∧ w1.heap[w.heap.size]? = some o ∧ Below w.heap.size w w1 ∧ w1.heap.size = w.heap.size + 1 :=
  ⟨_, rfl, heap_alloc_new w o, bel1 w o, by simp⟩
theorem setRow_below {W w : World} {n g : Nat} {cs : Array Value} (h : Below n W w) (hg : n ≤ g) : Below n W (w.setRow g cs) := below_setRow h hg _
/-- Words, as they lie in a row. -/
def wv (l : List Nat) : List Value := l.map (fun n : Nat => Value.int .u32 (n : Int))
def bv (l : List Int) : List Value := l.map (Value.int .u8)
theorem wv_len (l : List Nat) : (wv l).length = l.length := by simp [wv]
theorem bv_len (l : List Int) : (bv l).length = l.length := by simp [bv]
theorem wv_one (l : List Nat) : ∀ v ∈ wv l, v.oneCell' = true := by
  intro v hv
  obtain ⟨n, _, rfl⟩ := List.mem_map.1 hv
  rfl
theorem bv_one (l : List Int) : ∀ v ∈ bv l, v.oneCell' = true := one_ints .u8 l
theorem all_one {l : List Value} (h : ∀ v ∈ l, v.oneCell' = true) : l.toArray.all (·.oneCell') = true := by
  rw [List.all_toArray, List.all_eq_true]; exact h
theorem wv_at {l : List Nat} {j : Nat} (h : j < l.length) : (wv l)[j]? = some (.int .u32 ((l.getD j 0 : Nat) : Int)) := by
  simp [wv, List.getD_eq_getElem?_getD, h]
theorem bv_at {l : List Int} {j : Nat} (h : j < l.length) : (bv l)[j]? = some (.int .u8 (l.getD j 0)) := by
  simp [bv, List.getD_eq_getElem?_getD, h]
theorem wv_set (l : List Nat) (j n : Nat) : (wv l).set j (.int .u32 (n : Int)) = wv (l.set j n) := by simp [wv, List.map_set]
theorem bv_set (l : List Int) (j : Nat) (n : Int) : (bv l).set j (.int .u8 n) = bv (l.set j n) := by simp [bv, List.map_set]
theorem row_wv {w : World} {g : Nat} {l : List Nat} {t : TypeId} {j : Nat} (h : w.heap[g]? = some (.cells (wv l).toArray t (0, 0))) (hj : j < l.length) : w.cell? ⟨g, j, none⟩ = some (.int .u32 ((l.getD j 0 : Nat) : Int)) := by
  rw [cell_of_row w g j _ t (0, 0) h, List.getElem?_toArray]; exact wv_at hj
theorem row_bv {w : World} {g : Nat} {l : List Int} {t : TypeId} {j : Nat} (h : w.heap[g]? = some (.cells (bv l).toArray t (0, 0))) (hj : j < l.length) : w.cell? ⟨g, j, none⟩ = some (.int .u8 (l.getD j 0)) := by
  rw [cell_of_row w g j _ t (0, 0) h, List.getElem?_toArray]; exact bv_at hj
theorem row_wset {w : World} {g : Nat} {l : List Nat} {t : TypeId} (j n : Nat) (h : w.heap[g]? = some (.cells (wv l).toArray t (0, 0))) : (w.setCell ⟨g, j, none⟩ (.int .u32 (n : Int))).heap[g]? = some (.cells (wv (l.set j n)).toArray t (0, 0)) := by
  rw [heap_setCell_same w g j _ t _ h]; simp [wv, List.map_set]
theorem row_bset {w : World} {g : Nat} {l : List Int} {t : TypeId} (j : Nat) (n : Int) (h : w.heap[g]? = some (.cells (bv l).toArray t (0, 0))) : (w.setCell ⟨g, j, none⟩ (.int .u8 n)).heap[g]? = some (.cells (bv (l.set j n)).toArray t (0, 0)) := by
  rw [heap_setCell_same w g j _ t _ h]; simp [bv, List.map_set]
theorem row_free {w : World} {g : Nat} {cs : Array Value} {t : TypeId} (h : w.heap[g]? = some (.cells cs t (0, 0))) (j : Nat) : w.frozen? ⟨g, j, none⟩ = false := frozen_of_row w g j cs t h
/-- A row of bytes, as a slice of it reads. -/
theorem rd_row {w : World} {g : Nat} {l : List Int} {t : TypeId} (h : w.heap[g]? = some (.cells (bv l).toArray t (0, 0))) : RdI w .u8 (some ⟨g, 0, none⟩) l := by
  refine .inr ⟨_, rfl, (Array.getElem?_eq_some_iff.1 h).1, fun j hj => ?_⟩
  have e : (⟨g, 0, none⟩ : Addr).add j = ⟨g, j, none⟩ := by unfold Addr.add; by_cases h : j = 0 <;> simp [h]
  rw [e]; exact row_bv h hj
theorem rd_roww {w : World} {g : Nat} {l : List Nat} {t : TypeId} (h : w.heap[g]? = some (.cells (wv l).toArray t (0, 0))) : RdI w .u32 (some ⟨g, 0, none⟩) (l.map (fun n : Nat => (n : Int))) := by
  refine .inr ⟨_, rfl, (Array.getElem?_eq_some_iff.1 h).1, fun j hj => ?_⟩
  have e : (⟨g, 0, none⟩ : Addr).add j = ⟨g, j, none⟩ := by unfold Addr.add; by_cases h : j = 0 <;> simp [h]
  have hj' : j < l.length := by simpa using hj
  rw [e, row_wv h hj']
  simp [List.getD_eq_getElem?_getD, hj']
theorem bNg {n : Nat} {W w : World} (h : Below n W w) (m : Nat) : Below n W (w.drewN m) := ⟨h.os, h.tape, h.output, h.size, h.block⟩
theorem bDg {n : Nat} {W w : World} (h : Below n W w) : Below n W w.drew := h.drew
theorem bSg {n g j : Nat} {W w : World} (h : Below n W w) (hg : n ≤ g) (v : Value) : Below n W (w.setCell ⟨g, j, none⟩ v) := h.setCell hg v
theorem bTg {n m : Nat} {W w1 w2 : World} (h : Below n W w1) (k : Below m w1 w2) (hm : n ≤ m) : Below n W w2 := h.trans (k.mono hm)
theorem keep_b2 {n : Nat} {W0 W w9 : World} {a b : Addr} {x y : Value} (h : Below n W0 W ∧ W.cell? a = some x ∧ W.cell? b = some y) (hn : n ≤ W.heap.size) (hb : Below W.heap.size W w9) : Below n W0 w9 ∧ w9.cell? a = some x ∧ w9.cell? b = some y :=
  ⟨bTg h.1 hb hn, (hb.cell (p := a) (World.block_lt_of_cell? W a h.2.1)).trans h.2.1, (hb.cell (p := b) (World.block_lt_of_cell? W b h.2.2)).trans h.2.2⟩
theorem newRow (w : World) (A B : Array Value) (t : TypeId) : ∃ w1, (w.alloc (.cells A t)).setRow w.heap.size B = w1 ∧ w1.heap[w.heap.size]? = some (.cells B t (0, 0)) ∧ Below w.heap.size w w1 ∧ w1.heap.size = w.heap.size + 1 :=
  ⟨_, rfl, setRow_heap _ _ _ _ _ _ (heap_alloc_new w _), setRow_below (bel1 w _) (Nat.le_refl _), by simp⟩
theorem new2 (w : World) (A B : Obj) : ∃ w0, ((w.alloc A).alloc B) = w0 ∧ w0.heap[w.heap.size]? = some A ∧ w0.heap[w.heap.size + 1]? = some B ∧ w0.heap.size = w.heap.size + 1 + 1 ∧ Below w.heap.size w w0 := by
  refine ⟨_, rfl, ?_, ?_, ?_, ?_⟩
  · exact (Below.heap_alloc _ _ _ (by simp)).trans (heap_alloc_new _ _)
  · have := heap_alloc_new (w.alloc A) B; simpa using this
  · simp
  · exact bA (bel1 _ _) _
theorem new4 (w : World) (A B C D : Obj) : ∃ w0, ((((w.alloc A).alloc B).alloc C).alloc D) = w0 ∧ w0.heap[w.heap.size]? = some A ∧ w0.heap[w.heap.size + 1]? = some B ∧ w0.heap[w.heap.size + 1 + 1]? = some C ∧ w0.heap[w.heap.size + 1 + 1 + 1]? = some D ∧ w0.heap.size = w.heap.size + 1 + 1 + 1 + 1 ∧ Below w.heap.size w w0 := by
  obtain ⟨w1, h1, a1, a2, a3, a4⟩ := new2 w A B
  obtain ⟨w2, h2, b1, b2, b3, b4⟩ := new2 w1 C D
  refine ⟨w2, by rw [h1, h2], ?_, ?_, ?_, ?_, by omega, bT a4 b4⟩
  · exact (b4.block _ (by omega)).trans a1
  · exact (b4.block _ (by omega)).trans a2
  · rw [a3] at b1; exact b1
  · rw [a3] at b2; exact b2
end Go.Proofs.Ytnbghgenaolfgaa

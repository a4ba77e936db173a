/- A number as digits: what bcd.Put and its reference compute, for every number and width. A number as digits, the reference's side: gatelineref12.Put computes the same digits and the same error as bcd.Put. Numbers as digits, one behind the other: what bcd.Join and its reference compute, for all numbers and widths. No condition. -/
import Derived.Test.YtiogogbkgekkdaaM01
import Derived.Deep.RegionHeld3
import Derived.Deep.RegionWith
namespace Go.Proofs.Ytiogogbkgekkdaa
open Go.RowKit
set_option linter.unusedVariables false
set_option maxRecDepth 100000
set_option linter.unusedSimpArgs false

theorem infoU8 : (Try.prog.info? 5).map (fun i => (i.zero, i.size, i.bytes)) = some (some (.int .u8 0), 1, 1) := by kernel_rfl
theorem infoI64 : (Try.prog.info? 3).map (fun i => (i.zero, i.size, i.bytes)) = some (some (.int .i64 0), 1, 8) := by kernel_rfl

/-- The last w digits of n. -/
def dg : Nat → Int → List Int
  | 0, _ => []
  | w + 1, n => n / 10 ^ w % 10 :: dg w n
theorem dg_succ (w : Nat) (n : Int) : dg (w + 1) n = n / 10 ^ w % 10 :: dg w n := rfl
theorem dg_len (w : Nat) (n : Int) : (dg w n).length = w := by
  induction w with
  | zero => rfl
  | succ w ih => simp [dg, ih]
theorem dg_byte (w : Nat) (n : Int) : ∀ x ∈ dg w n, 0 ≤ x ∧ x < 10 := by
  induction w with
  | zero => simp [dg]
  | succ w ih =>
    intro x hx
    rcases List.mem_cons.1 hx with rfl | hx
    · omega
    · exact ih x hx
theorem div_step (n : Int) (k : Nat) : n / 10 ^ k / 10 = n / 10 ^ (k + 1) := by
  rw [Int.pow_succ, Int.ediv_ediv_of_nonneg (by exact Int.pow_nonneg (by omega))]
def putL (n wd : Int) : List Int := if n < 0 ∨ wd < 0 ∨ 18 < wd ∨ 0 < n / 10 ^ wd.toNat then [] else dg wd.toNat n
def putE (n wd : Int) : Int := if n < 0 ∨ wd < 0 ∨ 18 < wd then 1 else if 0 < n / 10 ^ wd.toNat then 23 else 0
theorem putL_arg {n wd : Int} (h : n < 0 ∨ wd < 0 ∨ 18 < wd) : putL n wd = [] := by unfold putL; rw [if_pos (by omega)]
theorem putE_arg {n wd : Int} (h : n < 0 ∨ wd < 0 ∨ 18 < wd) : putE n wd = 1 := by unfold putE; rw [if_pos h]
theorem putL_over {n : Int} {k : Nat} (h : 0 < n / 10 ^ k) : putL n k = [] := by unfold putL; rw [if_pos (by simp [h])]
theorem putE_over {n : Int} {k : Nat} (h0 : 0 ≤ n) (h1 : k ≤ 18) (h : 0 < n / 10 ^ k) : putE n k = 23 := by unfold putE; rw [if_neg (by omega), if_pos (by simpa using h)]
theorem putL_ok {n : Int} {k : Nat} (h0 : 0 ≤ n) (h1 : k ≤ 18) (h : ¬ 0 < n / 10 ^ k) : putL n k = dg k n := by
  unfold putL; rw [if_neg (by simp only [Int.toNat_natCast]; omega)]; simp
theorem putE_ok {n : Int} {k : Nat} (h0 : 0 ≤ n) (h1 : k ≤ 18) (h : ¬ 0 < n / 10 ^ k) : putE n k = 0 := by unfold putE; rw [if_neg (by omega), if_neg (by simpa using h)]

theorem repl_set (a : Nat) (d : Int) (l : List Int) : ((List.replicate (a + 1) (0 : Int) ++ l).map (Value.int .u8)).set a (.int .u8 d) = (List.replicate a (0 : Int) ++ d :: l).map (Value.int .u8) := by
  rw [← List.map_set, List.replicate_succ']
  simp [List.set_append]

/-- What a digits' row is, behind Put. -/
def PutRet (n wd : Int) (w : World) (e : Ending) (w' : World) : Prop :=
  ∃ v, e = .returned (.tuple #[v, .int .i64 (putE n wd)]) ∧ w'.ownsRow w.heap.size 5 1 v (putL n wd).length ((putL n wd).map (.int .u8)) ∧ Below w.heap.size w w'

set_option maxHeartbeats 2000000 in
theorem bcdPut_nat (n : Int) (W : Nat) (w : World) (h0 : 0 ≤ n) (h9 : n ≤ 9223372036854775807) (hW : W ≤ 18) :
    Calls Try.prog 138 #[.int .i64 n, .int .i64 W] w (PutRet n W w) := by
  obtain ⟨i0, hi, hz0, hz1, hz2⟩ := info_parts infoU8
  go_enter Try.func138, Try.ntmps138
  go_wp2_with (first
    | (at_make; refine wpList_make_full _ rfl _ _ 24 rfl w.heap.size 5 i0 (.int .u8 0) 1 Try.underlying24 hi hz0 hz1 .i64 .i64 _ _ W rfl rfl rfl rfl (by rw [hz2]; omega) (by unfold maxLen; omega) (Nat.le_refl _) ?_; intro w1 hown hg))
  have hown2 : w1.ownsRow w.heap.size 5 1 (.slice (some ⟨w.heap.size, 0, none⟩) W W) W ((List.replicate (W - 0) (0 : Int) ++ dg 0 n).map (.int .u8)) := by
    have e : (madeCells (Value.int .u8 0).cells (W * 1)).toList = (List.replicate (W - 0) (0 : Int) ++ dg 0 n).map (.int .u8) := by
      show (madeCells #[Value.int .u8 0] (W * 1)).toList = _
      rw [toList_madeCells_one]; simp [dg]
    rw [← e]; exact hown
  clear hown
  go_loopw [0, 22] (fun nn i wr => ∃ k : Nat, k ≤ W ∧ i = .int .i64 k ∧ nn = .int .i64 (n / 10 ^ k) ∧ wr.ownsRow w.heap.size 5 1 (.slice (some ⟨w.heap.size, 0, none⟩) W W) W ((List.replicate (W - k) (0 : Int) ++ dg k n).map (.int .u8)) ∧ Below w.heap.size w wr) (fun _ i _ => W - (intOf i).toNat)
  case atStart => exact ⟨0, Nat.zero_le _, rfl, by simp, hown2, bG (bR _) hg (fun k h => by cases h)⟩
  case round =>
    obtain ⟨k, hk, rfl, rfl, ho, hbl⟩ := hrel
    have hq := div_step n k
    have HQ := Lib.hid hq
    have hq0 : 0 ≤ n / 10 ^ k := Int.ediv_nonneg h0 (Int.pow_nonneg (by omega))
    have hq9 : n / 10 ^ k ≤ 9223372036854775807 := Int.le_trans (Int.ediv_le_self _ h0) h9
    by_cases hlt : k < W
    · obtain ⟨j, rfl⟩ : ∃ j, W = k + 1 + j := ⟨W - k - 1, by omega⟩
      have HD := Lib.hid (dg_succ k n)
      have HS := Lib.hid (repl_set j (n / 10 ^ k % 10) (dg k n))
      have ho2 := ho
      rw [show k + 1 + j - k = j + 1 by omega] at ho2
      have hcell := ho2.cellAt j (by omega)
      rw [List.getElem?_eq_getElem (by simp; omega)] at hcell
      have hfr := ho2.frozenAt j
      have HO := Lib.hid (ho2.stored j (.int .u8 (n / 10 ^ k % 10)))
      clear ho ho2 hown2 hg hq
      generalize n / 10 ^ k = q at *
      have hx : ((k + 1 + j : Nat) : Int) - 1 - (k : Int) = (j : Int) := by omega
      go_wp2
      go_roundw
      case rel => exact ⟨k + 1, by omega, by go_num, by rw [HQ.out], by have h := HO.out.1; rw [HS.out] at h; rw [HD.out, show k + 1 + j - (k + 1) = j by omega]; exact h, bS hbl (Nat.le_refl _)⟩
      case measure => simp [intOf]; omega
    · obtain rfl : k = W := by omega
      have ho2 : wr.ownsRow w.heap.size 5 1 (.slice (some ⟨w.heap.size, 0, none⟩) k k) (dg k n).length ((dg k n).map (.int .u8)) := by
        rw [Nat.sub_self] at ho; simp only [List.replicate_zero, List.nil_append] at ho; rw [dg_len]; exact ho
      by_cases hov : 0 < n / 10 ^ k
      · have E1 := Lib.hid (putL_over hov)
        have E2 := Lib.hid (putE_over h0 hW hov)
        have HO2 := Lib.hid ho2
        clear ho hown2 hq HQ hg ho2
        go_wp2
        go_ret2
        exact ⟨_, by rw [E2.out] <;> rfl, by rw [E1.out]; exact World.ownsRow_nil _ _ _ _, hbl⟩
      · have E1 := Lib.hid (putL_ok h0 hW hov)
        have E2 := Lib.hid (putE_ok h0 hW hov)
        have HO2 := Lib.hid ho2
        clear ho hown2 hq HQ hg ho2
        go_wp2
        go_ret2
        exact ⟨_, by rw [E2.out] <;> rfl, by rw [E1.out]; exact HO2.out, hbl⟩

theorem bcdPut_any (n wd : Int) (w : World) (h9 : n ≤ 9223372036854775807) : Calls Try.prog 138 #[.int .i64 n, .int .i64 wd] w (PutRet n wd w) := by
  by_cases h : n < 0 ∨ wd < 0 ∨ 18 < wd
  · have E1 := Lib.hid (putL_arg h)
    have E2 := Lib.hid (putE_arg h)
    by_cases h1 : n < 0
    · go_enter Try.func138, Try.ntmps138
      go_wp2
      go_ret2
      exact ⟨_, by rw [E2.out] <;> rfl, by rw [E1.out]; exact World.ownsRow_nil _ _ _ _, bR _⟩
    · by_cases h2 : wd < 0
      · go_enter Try.func138, Try.ntmps138
        go_wp2
        go_ret2
        exact ⟨_, by rw [E2.out] <;> rfl, by rw [E1.out]; exact World.ownsRow_nil _ _ _ _, bR _⟩
      · have h3 : 18 < wd := by omega
        go_enter Try.func138, Try.ntmps138
        go_wp2
        go_ret2
        exact ⟨_, by rw [E2.out] <;> rfl, by rw [E1.out]; exact World.ownsRow_nil _ _ _ _, bR _⟩
  · obtain ⟨W, rfl⟩ := Int.eq_ofNat_of_zero_le (show 0 ≤ wd by omega)
    exact bcdPut_nat n W w (by omega) h9 (by omega)
end Go.Proofs.Ytiogogbkgekkdaa

namespace Go.Proofs.Ytiogogbkgekkdaa
open Go.RowKit
set_option linter.unusedVariables false
set_option maxRecDepth 100000
set_option linter.unusedSimpArgs false

end Go.Proofs.Ytiogogbkgekkdaa

namespace Go.Proofs.Ytiogogbkgekkdaa
open Go.RowKit
set_option linter.unusedVariables false
set_option maxRecDepth 100000
set_option linter.unusedSimpArgs false

def joinGo : List Int → List Int → List Int → List Int × Int
  | v :: vs, w :: ws, acc => if putE v w ≠ 0 then ([], putE v w) else joinGo vs ws (acc ++ putL v w)
  | _, _, acc => (acc, 0)
theorem joinGo_cons (v w : Int) (vs ws acc : List Int) : joinGo (v :: vs) (w :: ws) acc = if putE v w ≠ 0 then ([], putE v w) else joinGo vs ws (acc ++ putL v w) := rfl
def joinR (l m : List Int) : List Int × Int := if l.length ≠ m.length ∨ 20 < l.length then ([], 1) else joinGo l m []
theorem joinR_arg {l m : List Int} (h : l.length ≠ m.length ∨ 20 < l.length) : joinR l m = ([], 1) := by unfold joinR; rw [if_pos h]
theorem joinR_go {l m : List Int} (h : l.length = m.length) (h' : ¬ 20 < l.length) : joinR l m = joinGo l m [] := by unfold joinR; rw [if_neg (by omega)]
theorem putL_len (n wd : Int) : (putL n wd).length ≤ 18 := by
  unfold putL; split
  · simp
  · rw [dg_len]; omega
theorem keep_cell {W w9 : World} {a : Addr} {v : Value} (hb : Below W.heap.size W w9) (hc : W.cell? a = some v) : w9.cell? a = some v := (hb.cell (World.block_lt_of_cell? W a hc)).trans hc
theorem keep2 {W w9 : World} {a b : Addr} {u v : Value} (h : W.cell? a = some u ∧ W.cell? b = some v) (hb : Below W.heap.size W w9) : w9.cell? a = some u ∧ w9.cell? b = some v := ⟨keep_cell hb h.1, keep_cell hb h.2⟩
theorem own_drw (b : Bool) {w : World} {base e n size : Nat} {v : Value} {cs : List Value} (h : w.ownsRow base e size v n cs) : (if b then w.drew else w).ownsRow base e size v n cs := by cases b <;> exact h

def JoinRet (l m : List Int) (w : World) (e : Ending) (w' : World) : Prop :=
  ∃ v, e = .returned (.tuple #[v, .int .i64 (joinR l m).2]) ∧ w'.ownsRow w.heap.size 5 1 v (joinR l m).1.length ((joinR l m).1.map (.int .u8)) ∧ Below w.heap.size w w'

set_option maxHeartbeats 4000000 in
set_option maxRecDepth 100000 in
theorem bcdJoin_any (A B : Option Addr) (c d : Nat) (l m : List Int) (w : World) (hr : RdI w .i64 A l) (hs : RdI w .i64 B m) (hl : l.length ≤ 9223372036854775807) (hm : m.length ≤ 9223372036854775807) (hv : ∀ x ∈ l, x ≤ 9223372036854775807) :
    Calls Try.prog 101 #[.slice A l.length c, .slice B m.length d] w (JoinRet l m w) := by
  by_cases hlen : l.length = m.length
  · have hd : ((l.length : Int) != (m.length : Int)) = false := by simp only [bne_eq_false_iff_eq]; omega
    by_cases h20 : 20 < l.length
    · have E := Lib.hid (joinR_arg (m := m) (.inr h20))
      clear hlen
      go_enter Try.func101, Try.ntmps101
      go_wp2
      go_ret2
      exact ⟨_, by rw [E.out] <;> rfl, by rw [E.out]; exact World.ownsRow_nil _ _ _ _, bR _⟩
    · have E := Lib.hid (joinR_go hlen h20)
      obtain ⟨i0, hi, hz0, hz1, hz2⟩ := info_parts infoU8
      have HL := Lib.hid hlen
      have hle : l.length ≤ m.length := by omega
      clear hlen
      go_enter Try.func101, Try.ntmps101
      go_wp2
      go_loopw [6, 23] (fun v i wr => ∃ (k : Nat) (acc : List Int), k ≤ l.length ∧ i = .int .i64 k ∧ wr.ownsRow w.heap.size 5 1 v acc.length (acc.map (.int .u8)) ∧ acc.length ≤ 18 * k ∧ Below w.heap.size w wr ∧ Hid (joinGo (l.drop k) (m.drop k) acc = joinGo l m [])) (fun v i _ => l.length - (intOf i).toNat)
      case atStart => exact ⟨0, [], Nat.zero_le _, rfl, World.ownsRow_nil _ _ _ _, by simp, (by repeat (first | (with_reducible exact bR _) | (with_reducible refine bT ?_ (by assumption)) | (with_reducible apply bA) | (with_reducible apply bD) | (with_reducible apply bN) | (with_reducible refine bS ?_ (by first | omega | (simp; done) | (simp; omega))))), Lib.hid (by simp)⟩
      case round =>
        obtain ⟨k, acc, hk, rfl, ho, hal, hbl, hg⟩ := hrel
        by_cases hlt : k < l.length
        · have hlt2 : k < m.length := by omega
          obtain ⟨ad, rfl, hc⟩ := (hr.below hbl).at_ hlt
          obtain ⟨bd, rfl, hc2⟩ := (hs.below hbl).at_ hlt2
          have hx := hv _ (getD_mem hlt)
          have e := hg.out
          rw [drop_cons hlt, drop_cons hlt2, joinGo_cons] at e
          have He := Lib.hid e
          clear e hg
          generalize l.getD k 0 = x at *
          generalize m.getD k 0 = y at *
          have HO := Lib.hid ho
          clear ho
          cases hE : (putE x y != 0) with
          | true =>
            have e := He.out
            rw [if_pos (by simpa using hE)] at e
            have He2 := Lib.hid e
            clear e He
            go_wp2_with (first | (go_at_call 138; refine (bcdPut_any _ _ _ (by assumption)).mono ?_; rintro e w1 ⟨pv, rfl, hpo, hb⟩; obtain ⟨pA, pc, rfl, _, _⟩ := own_slice hpo; have hpr := RdI.of_own hpo; have ho2 := own_below (own_drw false HO.out) hb; have hsz := (bT hbl hb).size; have hown := Lib.hid (own_ge ho2); have hpl := putL_len x y; have hbl2 := bT hbl hb; clear hpo) | (at_builtin; refine wpL_app (k := .u8) rfl _ _ 24 rfl w.heap.size 5 i0 (.int .u8 0) 1 Try.underlying24 hi hz0 hz1 hz2 rfl _ acc rfl ho2 _ _ (putL x y) rfl hpr ?_ ?_ ?_ ?_; (focus (exact maxLen_ge (by omega))); (focus omega); (focus omega); intro v2 w2 ho3 hg2 _))
            go_wp2
            go_ret2
            exact ⟨_, by rw [E.out, ← He2.out] <;> rfl, by rw [E.out, ← He2.out]; exact World.ownsRow_nil _ _ _ _, (by repeat (first | (with_reducible exact bR _) | (with_reducible refine bT ?_ (by assumption)) | (with_reducible apply bA) | (with_reducible apply bD) | (with_reducible apply bN) | (with_reducible refine bS ?_ (by first | omega | (simp; done) | (simp; omega)))))⟩
          | false =>
            have e := He.out
            rw [if_neg (by simpa using hE)] at e
            have He2 := Lib.hid e
            clear e He
            go_wp2_with (first | (go_at_call 138; refine (bcdPut_any _ _ _ (by assumption)).mono ?_; rintro e w1 ⟨pv, rfl, hpo, hb⟩; obtain ⟨pA, pc, rfl, _, _⟩ := own_slice hpo; have hpr := RdI.of_own hpo; have ho2 := own_below (own_drw false HO.out) hb; have hsz := (bT hbl hb).size; have hown := Lib.hid (own_ge ho2); have hpl := putL_len x y; have hbl2 := bT hbl hb; clear hpo) | (at_builtin; refine wpL_app (k := .u8) rfl _ _ 24 rfl w.heap.size 5 i0 (.int .u8 0) 1 Try.underlying24 hi hz0 hz1 hz2 rfl _ acc rfl ho2 _ _ (putL x y) rfl hpr ?_ ?_ ?_ ?_; (focus (exact maxLen_ge (by omega))); (focus omega); (focus omega); intro v2 w2 ho3 hg2 _))
            have h2 := bG hbl2 hg2 hown.out
            have HO3 := Lib.hid ho3
            clear hg2 ho3 ho2 hpr
            go_wp2
            go_roundw
            case rel => exact ⟨k + 1, _, by omega, by go_num, HO3.out, by rw [List.length_append]; omega, h2, He2⟩
            case measure => simp [intOf]; omega
        · have e := hg.out
          rw [List.drop_eq_nil_of_le (show l.length ≤ k by omega)] at e
          have e2 : (acc, (0 : Int)) = joinGo l m [] := by rw [← e]; cases m.drop k <;> rfl
          have He := Lib.hid e2
          have HO := Lib.hid ho
          clear e e2 hg ho
          go_wp2
          go_ret2
          exact ⟨_, by rw [E.out, ← He.out] <;> rfl, by rw [E.out, ← He.out]; exact HO.out, hbl⟩
  · have hd : ((l.length : Int) != (m.length : Int)) = true := by simp only [bne_iff_ne, ne_eq]; omega
    have E := Lib.hid (joinR_arg (m := m) (.inl hlen))
    clear hlen
    go_enter Try.func101, Try.ntmps101
    go_wp2
    go_ret2
    exact ⟨_, by rw [E.out] <;> rfl, by rw [E.out]; exact World.ownsRow_nil _ _ _ _, bR _⟩


end Go.Proofs.Ytiogogbkgekkdaa

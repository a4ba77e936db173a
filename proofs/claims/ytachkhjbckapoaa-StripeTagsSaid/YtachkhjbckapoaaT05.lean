/- A number as digits, the reference's side: gatelineref12.Put computes the same digits and the same error as bcd.Put. Numbers as digits, one behind the other: what bcd.Join and its reference compute, for all numbers and widths. No condition. -/
import Derived.Test.YtachkhjbckapoaaT04
import Derived.Deep.RegionHeld3
import Derived.Deep.RegionWith
namespace Go.Proofs.Ytachkhjbckapoaa
open Go.RowKit
set_option linter.unusedVariables false
set_option maxRecDepth 100000
set_option linter.unusedSimpArgs false

end Go.Proofs.Ytachkhjbckapoaa

namespace Go.Proofs.Ytachkhjbckapoaa
open Go.RowKit
set_option linter.unusedVariables false
set_option maxRecDepth 100000
set_option linter.unusedSimpArgs false

def joinGo : List Int → List Int → List Int → List Int × Int
  | v :: vs, w :: ws, acc => if putE v w ≠ 0 then ([], putE v w) else joinGo vs ws (acc ++ putL v w)
  | _, _, acc => (acc, 0)
theorem joinGo_cons (v w : Int) (vs ws acc : List Int) : joinGo (v :: vs) (w :: ws) acc = if putE v w ≠ 0 then ([], putE v w) else joinGo vs ws (acc ++ putL v w) := rfl
def joinR (l m : List Int) : List Int × Int := if l.length ≠ m.length ∨ 20 < l.length then ([], 1) else joinGo l m []
theorem joinR_arg {l m : List Int} (h : l.length ≠ m.length ∨ 20 < l.length) : joinR l m = ([], 1) := by unfold joinR; rw [if_pos h]
theorem joinR_go {l m : List Int} (h : l.length = m.length) (h' : ¬ 20 < l.length) : joinR l m = joinGo l m [] := by unfold joinR; rw [if_neg (by omega)]
theorem putL_len (n wd : Int) : (putL n wd).length ≤ 18 := by
  unfold putL; split
  · simp
  · rw [dg_len]; omega
theorem keep_cell {W w9 : World} {a : Addr} {v : Value} (hb : Below W.heap.size W w9) (hc : W.cell? a = some v) : w9.cell? a = some v := (hb.cell (World.block_lt_of_cell? W a hc)).trans hc
theorem keep2 {W w9 : World} {a b : Addr} {u v : Value} (h : W.cell? a = some u ∧ W.cell? b = some v) (hb : Below W.heap.size W w9) : w9.cell? a = some u ∧ w9.cell? b = some v := ⟨keep_cell hb h.1, keep_cell hb h.2⟩
theorem own_drw (b : Bool) {w : World} {base e n size : Nat} {v : Value} {cs : List Value} (h : w.ownsRow base e size v n cs) : (if b then w.drew else w).ownsRow base e size v n cs := by cases b <;> exact h

def JoinRet (l m : List Int) (w : World) (e : Ending) (w' : World) : Prop :=
  ∃ v, e = .returned (.tuple #[v, .int .i64 (joinR l m).2]) ∧ w'.ownsRow w.heap.size 5 1 v (joinR l m).1.length ((joinR l m).1.map (.int .u8)) ∧ Below w.heap.size w w'

set_option maxHeartbeats 4000000 in
set_option maxRecDepth 100000 in
theorem bcdJoin_any (A B : Option Addr) (c d : Nat) (l m : List Int) (w : World) (hr : RdI w .i64 A l) (hs : RdI w .i64 B m) (hl : l.length ≤ 9223372036854775807) (hm : m.length ≤ 9223372036854775807) (hv : ∀ x ∈ l, x ≤ 9223372036854775807) :
    Calls Try.prog 103 #[.slice A l.length c, .slice B m.length d] w (JoinRet l m w) := by
  by_cases hlen : l.length = m.length
  · have hd : ((l.length : Int) != (m.length : Int)) = false := by simp only [bne_eq_false_iff_eq]; omega
    by_cases h20 : 20 < l.length
    · have E := Lib.hid (joinR_arg (m := m) (.inr h20))
      clear hlen
      go_enter Try.func103, Try.ntmps103
      go_wp2
      go_ret2
      exact ⟨_, by rw [E.out] <;> rfl, by rw [E.out]; exact World.ownsRow_nil _ _ _ _, bR _⟩
    · have E := Lib.hid (joinR_go hlen h20)
      obtain ⟨i0, hi, hz0, hz1, hz2⟩ := info_parts infoU8
      have HL := Lib.hid hlen
      have hle : l.length ≤ m.length := by omega
      clear hlen
      go_enter Try.func103, Try.ntmps103
      go_wp2
      go_loopw [6, 23] (fun v i wr => ∃ (k : Nat) (acc : List Int), k ≤ l.length ∧ i = .int .i64 k ∧ wr.ownsRow w.heap.size 5 1 v acc.length (acc.map (.int .u8)) ∧ acc.length ≤ 18 * k ∧ Below w.heap.size w wr ∧ Hid (joinGo (l.drop k) (m.drop k) acc = joinGo l m [])) (fun v i _ => l.length - (intOf i).toNat)
      case atStart => exact ⟨0, [], Nat.zero_le _, rfl, World.ownsRow_nil _ _ _ _, by simp, (by repeat (first | (with_reducible exact bR _) | (with_reducible refine bT ?_ (by assumption)) | (with_reducible apply bA) | (with_reducible apply bD) | (with_reducible apply bN) | (with_reducible refine bS ?_ (by first | omega | (simp; done) | (simp; omega))))), Lib.hid (by simp)⟩
      case round =>
        obtain ⟨k, acc, hk, rfl, ho, hal, hbl, hg⟩ := hrel
        by_cases hlt : k < l.length
        · have hlt2 : k < m.length := by omega
          obtain ⟨ad, rfl, hc⟩ := (hr.below hbl).at_ hlt
          obtain ⟨bd, rfl, hc2⟩ := (hs.below hbl).at_ hlt2
          have hx := hv _ (getD_mem hlt)
          have e := hg.out
          rw [drop_cons hlt, drop_cons hlt2, joinGo_cons] at e
          have He := Lib.hid e
          clear e hg
          generalize l.getD k 0 = x at *
          generalize m.getD k 0 = y at *
          have HO := Lib.hid ho
          clear ho
          cases hE : (putE x y != 0) with
          | true =>
            have e := He.out
            rw [if_pos (by simpa using hE)] at e
            have He2 := Lib.hid e
            clear e He
            go_wp2_with (first | (go_at_call 139; refine (bcdPut_any _ _ _ (by assumption)).mono ?_; rintro e w1 ⟨pv, rfl, hpo, hb⟩; obtain ⟨pA, pc, rfl, _, _⟩ := own_slice hpo; have hpr := RdI.of_own hpo; have ho2 := own_below (own_drw false HO.out) hb; have hsz := (bT hbl hb).size; have hown := Lib.hid (own_ge ho2); have hpl := putL_len x y; have hbl2 := bT hbl hb; clear hpo) | (at_builtin; refine wpL_app (k := .u8) rfl _ _ 30 rfl w.heap.size 5 i0 (.int .u8 0) 1 Try.underlying30 hi hz0 hz1 hz2 rfl _ acc rfl ho2 _ _ (putL x y) rfl hpr ?_ ?_ ?_ ?_; (focus (exact maxLen_ge (by omega))); (focus omega); (focus omega); intro v2 w2 ho3 hg2 _))
            go_wp2
            go_ret2
            exact ⟨_, by rw [E.out, ← He2.out] <;> rfl, by rw [E.out, ← He2.out]; exact World.ownsRow_nil _ _ _ _, (by repeat (first | (with_reducible exact bR _) | (with_reducible refine bT ?_ (by assumption)) | (with_reducible apply bA) | (with_reducible apply bD) | (with_reducible apply bN) | (with_reducible refine bS ?_ (by first | omega | (simp; done) | (simp; omega)))))⟩
          | false =>
            have e := He.out
            rw [if_neg (by simpa using hE)] at e
            have He2 := Lib.hid e
            clear e He
            go_wp2_with (first | (go_at_call 139; refine (bcdPut_any _ _ _ (by assumption)).mono ?_; rintro e w1 ⟨pv, rfl, hpo, hb⟩; obtain ⟨pA, pc, rfl, _, _⟩ := own_slice hpo; have hpr := RdI.of_own hpo; have ho2 := own_below (own_drw false HO.out) hb; have hsz := (bT hbl hb).size; have hown := Lib.hid (own_ge ho2); have hpl := putL_len x y; have hbl2 := bT hbl hb; clear hpo) | (at_builtin; refine wpL_app (k := .u8) rfl _ _ 30 rfl w.heap.size 5 i0 (.int .u8 0) 1 Try.underlying30 hi hz0 hz1 hz2 rfl _ acc rfl ho2 _ _ (putL x y) rfl hpr ?_ ?_ ?_ ?_; (focus (exact maxLen_ge (by omega))); (focus omega); (focus omega); intro v2 w2 ho3 hg2 _))
            have h2 := bG hbl2 hg2 hown.out
            have HO3 := Lib.hid ho3
            clear hg2 ho3 ho2 hpr
            go_wp2
            go_roundw
            case rel => exact ⟨k + 1, _, by omega, by go_num, HO3.out, by rw [List.length_append]; omega, h2, He2⟩
            case measure => simp [intOf]; omega
        · have e := hg.out
          rw [List.drop_eq_nil_of_le (show l.length ≤ k by omega)] at e
          have e2 : (acc, (0 : Int)) = joinGo l m [] := by rw [← e]; cases m.drop k <;> rfl
          have He := Lib.hid e2
          have HO := Lib.hid ho
          clear e e2 hg ho
          go_wp2
          go_ret2
          exact ⟨_, by rw [E.out, ← He.out] <;> rfl, by rw [E.out, ← He.out]; exact HO.out, hbl⟩
  · have hd : ((l.length : Int) != (m.length : Int)) = true := by simp only [bne_iff_ne, ne_eq]; omega
    have E := Lib.hid (joinR_arg (m := m) (.inl hlen))
    clear hlen
    go_enter Try.func103, Try.ntmps103
    go_wp2
    go_ret2
    exact ⟨_, by rw [E.out] <;> rfl, by rw [E.out]; exact World.ownsRow_nil _ _ _ _, bR _⟩


end Go.Proofs.Ytachkhjbckapoaa

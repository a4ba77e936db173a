/- Is a number in a list: slices.Index, slices.Contains at []int, and the reference's has. No condition. -/
import Derived.Test.YthejnlelegcgfaaNegoIs
namespace Go.Proofs.Ythejnlelegcgfaa
open Go.RowKit
set_option linter.unusedVariables false
set_option linter.unusedSimpArgs false

def idxGo (v : Int) : Int → List Int → Int
  | _, [] => -1
  | k, x :: l => if v = x then k else idxGo v (k + 1) l
theorem idxGo_cons (v k x : Int) (l : List Int) : idxGo v k (x :: l) = if v = x then k else idxGo v (k + 1) l := rfl
theorem idx_has (v : Int) : ∀ (l : List Int) (k : Int), 0 ≤ k → decide (0 ≤ idxGo v k l) = hasB l v
  | [], k, h => by simp [idxGo, hasB]
  | x :: l, k, h => by
    rw [idxGo_cons]
    by_cases e : v = x
    · rw [if_pos e, hasB_cons]; simp [e, h]
    · rw [if_neg e, idx_has v l (k + 1) (by omega)]
      rw [hasB_cons, beq_eq_false_iff_ne.mpr e]; simp

set_option maxHeartbeats 2000000 in
theorem index_any (A : Option Addr) (c : Nat) (l : List Int) (v : Int) (w : World) (hr : RdI w .i64 A l) (hl : l.length ≤ 9223372036854775807) :
    Calls Try.prog 81 #[.slice A l.length c, .int .i64 v] w fun e w' => e = .returned (.int .i64 (idxGo v 0 l)) ∧ w = w' := by
  go_enter Try.func81, Try.ntmps81
  go_wp2
  go_loop [8] (fun i => ∃ k : Nat, k ≤ l.length ∧ i = .int .i64 k ∧ Hid (idxGo v k (l.drop k) = idxGo v 0 l)) (fun i => l.length - (intOf i).toNat)
  case atStart => exact ⟨0, Nat.zero_le _, rfl, Lib.hid (by simp)⟩
  case round =>
    obtain ⟨k, hk, rfl, hg⟩ := hrel
    by_cases hlt : k < l.length
    · obtain ⟨ad, rfl, hc⟩ := hr.at_ hlt
      have e := hg.out
      rw [drop_cons hlt, idxGo_cons] at e
      have He := Lib.hid e
      clear e hg
      generalize l.getD k 0 = x at *
      by_cases hx : v = x
      · have d : (v == x) = true := by simpa using hx
        have e := He.out
        rw [if_pos hx] at e
        have He2 := Lib.hid e
        clear e He hx
        go_wp2
        go_ret
        exact ⟨by rw [← He2.out] <;> rfl, rfl⟩
      · have d : (v == x) = false := by simpa using hx
        have e := He.out
        rw [if_neg hx] at e
        have He2 := Lib.hid e
        clear e He hx
        go_wp2
        go_round
        case rel => exact ⟨k + 1, by omega, by go_num, He2⟩
        case measure => simp [intOf]; omega
    · have e := hg.out
      rw [List.drop_eq_nil_of_le (by omega)] at e
      have He := Lib.hid e
      clear e hg
      go_wp2
      go_ret
      exact ⟨by rw [← He.out] <;> rfl, rfl⟩

theorem contains_any (A : Option Addr) (c : Nat) (l : List Int) (v : Int) (w : World) (hr : RdI w .i64 A l) (hl : l.length ≤ 9223372036854775807) :
    Calls Try.prog 78 #[.slice A l.length c, .int .i64 v] w fun e w' => e = .returned (.bool (hasB l v)) ∧ w = w' := by
  have E := Lib.hid (idx_has v l 0 (by omega))
  go_enter Try.func78, Try.ntmps78
  go_wp2_with (go_at_call 81; refine (index_any _ _ _ _ _ hr hl).mono ?_; rintro e w' ⟨rfl, rfl⟩)
  go_ret
  exact ⟨by rw [← E.out] <;> rfl, rfl⟩

set_option maxHeartbeats 2000000 in
theorem has_any (A : Option Addr) (c : Nat) (l : List Int) (v : Int) (w : World) (hr : RdI w .i64 A l) (hl : l.length ≤ 9223372036854775807) :
    Calls Try.prog 63 #[.slice A l.length c, .int .i64 v] w fun e w' => e = .returned (.bool (hasB l v)) ∧ w = w' := by
  go_enter Try.func63, Try.ntmps63
  go_wp2
  go_loop [5] (fun i => ∃ k : Nat, k ≤ l.length ∧ i = .int .i64 k ∧ Hid (hasB (l.drop k) v = hasB l v)) (fun i => l.length - (intOf i).toNat)
  case atStart => exact ⟨0, Nat.zero_le _, rfl, Lib.hid (by simp)⟩
  case round =>
    obtain ⟨k, hk, rfl, hg⟩ := hrel
    by_cases hlt : k < l.length
    · obtain ⟨ad, rfl, hc⟩ := hr.at_ hlt
      have e := hg.out
      rw [drop_cons hlt, hasB_cons] at e
      have He := Lib.hid e
      clear e hg
      generalize l.getD k 0 = x at *
      by_cases hx : x = v
      · have d : (x == v) = true := by simpa using hx
        have e := He.out
        rw [show (v == x) = true by simp [hx], Bool.true_or] at e
        have He2 := Lib.hid e
        clear e He hx
        go_wp2
        go_ret
        exact ⟨by rw [← He2.out] <;> rfl, rfl⟩
      · have d : (x == v) = false := by simpa using hx
        have e := He.out
        rw [show (v == x) = false by simp; omega, Bool.false_or] at e
        have He2 := Lib.hid e
        clear e He hx
        go_wp2
        go_round
        case rel => exact ⟨k + 1, by omega, by go_num, He2⟩
        case measure => simp [intOf]; omega
    · have e := hg.out
      rw [List.drop_eq_nil_of_le (by omega), hasB_nil] at e
      have He := Lib.hid e
      clear e hg
      go_wp2
      go_ret
      exact ⟨by rw [← He.out] <;> rfl, rfl⟩

/-- What a list of numbers that a call hands back is. -/
def ListRet (r : List Int) (e2 : Option Int) (w : World) (e : Ending) (w' : World) : Prop :=
  ∃ v, e = .returned (match e2 with | none => v | some x => .tuple #[v, .int .i64 x]) ∧ w'.ownsRow w.heap.size 3 1 v r.length (r.map (.int .i64)) ∧ Below w.heap.size w w'

theorem filter_snoc (l : List Int) (b : List Int) {k : Nat} (h : k < l.length) : (l.take (k + 1)).filter (fun v => hasB b v) = (l.take k).filter (fun v => hasB b v) ++ if hasB b (l.getD k 0) = true then [l.getD k 0] else [] := by
  rw [List.take_succ_eq_append_getElem h, List.filter_append]
  have e : l.getD k 0 = l[k] := by simp [h]
  rw [e, List.filter_cons, List.filter_nil]

set_option maxHeartbeats 4000000 in
set_option maxRecDepth 100000 in
theorem both_any (A B : Option Addr) (c d : Nat) (l m : List Int) (w : World) (hr : RdI w .i64 A l) (hs : RdI w .i64 B m) (hl : l.length ≤ 3) (hm : m.length ≤ 9223372036854775807) :
    Calls Try.prog 62 #[.slice A l.length c, .slice B m.length d] w (ListRet (l.filter (fun v => hasB m v)) none w) := by
  obtain ⟨i0, hi, hz0, hz1, hz2⟩ := info_parts infoI64
  go_enter Try.func62, Try.ntmps62
  go_wp2
  go_loopw [5, 10] (fun v i wr => ∃ k : Nat, k ≤ l.length ∧ i = .int .i64 k ∧ wr.ownsRow w.heap.size 3 1 v ((l.take k).filter (fun v => hasB m v)).length (((l.take k).filter (fun v => hasB m v)).map (.int .i64)) ∧ Below w.heap.size w wr) (fun _ i _ => l.length - (intOf i).toNat)
  case atStart => exact ⟨0, Nat.zero_le _, rfl, World.ownsRow_nil _ _ _ _, bR _⟩
  case round =>
    obtain ⟨k, hk, rfl, ho, hbl⟩ := hrel
    by_cases hlt : k < l.length
    · obtain ⟨ad, rfl, hc⟩ := (hr.below hbl).at_ hlt
      have hms := hs.below hbl
      have hfl : ((l.take k).filter (fun v => hasB m v)).length ≤ 3 := Nat.le_trans (List.length_filter_le _ _) (by rw [List.length_take]; omega)
      have HF := Lib.hid (filter_snoc l m hlt)
      have hsz := hbl.size
      have hge := Lib.hid (own_ge ho)
      generalize (l.take k).filter (fun v => hasB m v) = D at *
      generalize l.getD k 0 = x at *
      cases hx : hasB m x with
      | true =>
        have e := HF.out
        rw [if_pos hx] at e
        have HE := Lib.hid e
        clear e HF
        go_wp2_with (first
          | (go_at_call 78; refine (contains_any _ _ _ _ _ hms hm).mono ?_; rintro e w' ⟨rfl, rfl⟩)
          | (at_builtin; refine wpL_app (k := .i64) rfl _ _ 36 rfl w.heap.size 3 i0 (.int .i64 0) 8 Try.underlying36 hi hz0 hz1 hz2 rfl _ D rfl (ho.alloc _) _ _ [x] rfl (RdI.lit1 _ _ _ _) ?_ ?_ ?_ ?_; (focus (simp only [List.length_cons, List.length_nil]; exact maxLen_ge (by omega))); (focus (simp only [List.length_cons, List.length_nil]; omega)); (focus (simp; omega)); intro v2 w2 ho3 hg2 _))
        have h2 := bG (bA hbl _) hg2 hge.out
        have HO3 := Lib.hid ho3
        clear hg2 ho3 ho
        go_wp2
        go_roundw
        case rel => exact ⟨k + 1, by omega, by go_num, by rw [HE.out]; exact HO3.out, h2⟩
        case measure => simp [intOf]; omega
      | false =>
        have e := HF.out
        rw [if_neg (by simp [hx]), List.append_nil] at e
        have HE := Lib.hid e
        have HO := Lib.hid ho
        clear e HF ho
        go_wp2_with (go_at_call 78; refine (contains_any _ _ _ _ _ hms hm).mono ?_; rintro e w' ⟨rfl, rfl⟩)
        go_roundw
        case rel => exact ⟨k + 1, by omega, by go_num, by rw [HE.out]; exact HO.out, hbl⟩
        case measure => simp [intOf]; omega
    · have hkl : l.take k = l := List.take_of_length_le (by omega)
      rw [hkl] at ho
      have HO := Lib.hid ho
      clear hkl ho
      go_wp2
      go_ret
      exact ⟨_, rfl, HO.out, hbl⟩
end Go.Proofs.Ythejnlelegcgfaa

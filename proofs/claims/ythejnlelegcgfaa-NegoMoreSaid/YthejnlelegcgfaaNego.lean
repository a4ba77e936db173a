/- Layer 22, the program's side and the reference's: what two devices have in common, pick, and use for a ticket. No condition. -/
import Derived.Test.YthejnlelegcgfaaNegoHas
namespace Go.Proofs.Ythejnlelegcgfaa
open Go.RowKit
set_option linter.unusedVariables false
set_option linter.unusedSimpArgs false

theorem filter_snoc' (f : Int → Bool) (l : List Int) {k : Nat} (h : k < l.length) : (l.take (k + 1)).filter f = (l.take k).filter f ++ if f (l.getD k 0) = true then [l.getD k 0] else [] := by
  rw [List.take_succ_eq_append_getElem h, List.filter_append]
  have e : l.getD k 0 = l[k] := by simp [h]
  rw [e, List.filter_cons, List.filter_nil]
theorem get123 {k : Nat} (h : k < 3) : ([1, 2, 3] : List Int).getD k 0 = (k : Int) + 1 := by
  rcases (show k = 0 ∨ k = 1 ∨ k = 2 by omega) with rfl | rfl | rfl <;> rfl

set_option maxHeartbeats 8000000 in
set_option maxRecDepth 100000 in
theorem refCommon_any (A B : Option Addr) (c d : Nat) (l m : List Int) (w : World) (hr : RdI w .i64 A l) (hs : RdI w .i64 B m) (hl : l.length ≤ 9223372036854775807) (hm : m.length ≤ 9223372036854775807) :
    Calls Try.prog 37 #[.slice A l.length c, .slice B m.length d] w (ListRet (comL l m) (some (comE l m)) w) := by
  cases h1 : isB l with
  | false =>
    have E1 := Lib.hid (comL_no (a := l) (b := m) (.inl h1))
    have E2 := Lib.hid (comE_no (a := l) (b := m) (.inl h1))
    go_enter Try.func37, Try.ntmps37
    go_wp2_with (go_at_call 44; (with_reducible refine (ref22Is_any _ _ _ _ hr hl).mono ?_); rintro e w' ⟨rfl, n, rfl⟩)
    go_ret2
    exact ⟨_, by rw [E2.out] <;> rfl, by rw [E1.out]; exact World.ownsRow_nil _ _ _ _, (by repeat (first | (with_reducible exact bR _) | (with_reducible refine bT ?_ (by assumption)) | (with_reducible apply bA) | (with_reducible apply bD) | (with_reducible apply bN) | (with_reducible refine bS ?_ (by first | omega | (simp; done) | (simp; omega)))))⟩
  | true =>
    cases h2 : isB m with
    | false =>
      have E1 := Lib.hid (comL_no (a := l) (b := m) (.inr h2))
      have E2 := Lib.hid (comE_no (a := l) (b := m) (.inr h2))
      go_enter Try.func37, Try.ntmps37
      go_wp2_with (first
        | (go_at_call 44; (with_reducible refine (ref22Is_any _ _ l _ hr hl).mono ?_); rintro e w' ⟨rfl, n, rfl⟩)
        | (go_at_call 44; (with_reducible refine (ref22Is_any _ _ m _ ?_ hm).mono ?_); (focus (exact hs)); rintro e w' ⟨rfl, n2, rfl⟩))
      go_ret2
      exact ⟨_, by rw [E2.out] <;> rfl, by rw [E1.out]; exact World.ownsRow_nil _ _ _ _, (by repeat (first | (with_reducible exact bR _) | (with_reducible refine bT ?_ (by assumption)) | (with_reducible apply bA) | (with_reducible apply bD) | (with_reducible apply bN) | (with_reducible refine bS ?_ (by first | omega | (simp; done) | (simp; omega)))))⟩
    | true =>
      have E1 := Lib.hid (comL_ok h1 h2)
      have E2 := Lib.hid (comE_ok h1 h2)
      obtain ⟨i0, hi, hz0, hz1, hz2⟩ := info_parts infoI64
      go_enter Try.func37, Try.ntmps37
      go_wp2_with (first
        | (go_at_call 44; (with_reducible refine (ref22Is_any _ _ l _ hr hl).mono ?_); rintro e w' ⟨rfl, n, rfl⟩)
        | (go_at_call 44; (with_reducible refine (ref22Is_any _ _ m _ ?_ hm).mono ?_); (focus (exact hs)); rintro e w' ⟨rfl, n2, rfl⟩))
      clear h1 h2
      go_loopw [6, 7] (fun v i wr => ∃ (k : Nat) (x : Int), k ≤ 3 ∧ Hid (x = k + 1) ∧ 1 ≤ x ∧ x ≤ 4 ∧ i = .int .i64 x ∧ wr.ownsRow w.heap.size 3 1 v ((([1, 2, 3] : List Int).take k).filter (fun v => hasB l v && hasB m v)).length (((([1, 2, 3] : List Int).take k).filter (fun v => hasB l v && hasB m v)).map (.int .i64)) ∧ Below w.heap.size w wr) (fun _ i _ => (4 - intOf i).toNat)
      case atStart => exact ⟨0, 1, by omega, Lib.hid (by simp), by omega, by omega, rfl, own_lit0 _ _ _, (by repeat (first | (with_reducible exact bR _) | (with_reducible refine bT ?_ (by assumption)) | (with_reducible apply bA) | (with_reducible apply bD) | (with_reducible apply bN) | (with_reducible refine bS ?_ (by first | omega | (simp; done) | (simp; omega)))))⟩
      case round =>
        obtain ⟨k, x, hk, hx, hx1, hx4, rfl, ho, hbl⟩ := hrel
        have hrr := hr.below hbl
        have hss := hs.below hbl
        by_cases hlt : x ≤ 3
        · have hk3 : k < 3 := by have := hx.out; omega
          have hfl : ((([1, 2, 3] : List Int).take k).filter (fun v => hasB l v && hasB m v)).length ≤ 3 := Nat.le_trans (List.length_filter_le _ _) (by rw [List.length_take]; simp; omega)
          have e0 := filter_snoc' (fun v => hasB l v && hasB m v) [1, 2, 3] (k := k) (by simpa using hk3)
          rw [get123 hk3, ← hx.out] at e0
          have HF := Lib.hid e0
          have hsz := hbl.size
          have hge := Lib.hid (own_ge ho)
          clear e0
          generalize (([1, 2, 3] : List Int).take k).filter (fun v => hasB l v && hasB m v) = D at *
          cases g1 : hasB l x with
          | false =>
            have e := HF.out
            simp only [g1, Bool.false_and, Bool.false_eq_true, if_false, List.append_nil] at e
            have HE := Lib.hid e
            have HO := Lib.hid ho
            clear e HF ho
            go_wp2_with (go_at_call 63; (with_reducible refine (has_any _ _ _ _ _ hrr hl).mono ?_); rintro e w' ⟨rfl, rfl⟩)
            go_roundw
            case rel => exact ⟨k + 1, x + 1, by omega, Lib.hid (by have := hx.out; omega), by omega, by omega, rfl, by rw [HE.out]; exact HO.out, hbl⟩
            case measure => simp [intOf]; omega
          | true =>
            cases g2 : hasB m x with
            | false =>
              have e := HF.out
              simp only [g1, g2, Bool.and_false, Bool.false_eq_true, if_false, List.append_nil] at e
              have HE := Lib.hid e
              have HO := Lib.hid ho
              clear e HF ho
              go_wp2_with (first
                | (go_at_call 63; (with_reducible refine (has_any _ _ l _ _ hrr hl).mono ?_); rintro e w' ⟨rfl, rfl⟩)
                | (go_at_call 63; (with_reducible refine (has_any _ _ m _ _ hss hm).mono ?_); rintro e w' ⟨rfl, rfl⟩))
              go_roundw
              case rel => exact ⟨k + 1, x + 1, by omega, Lib.hid (by have := hx.out; omega), by omega, by omega, rfl, by rw [HE.out]; exact HO.out, hbl⟩
              case measure => simp [intOf]; omega
            | true =>
              have e := HF.out
              simp only [g1, g2, Bool.and_true, if_true] at e
              have HE := Lib.hid e
              clear e HF
              go_wp2_with (first
                | (go_at_call 63; (with_reducible refine (has_any _ _ l _ _ hrr hl).mono ?_); rintro e w' ⟨rfl, rfl⟩)
                | (go_at_call 63; (with_reducible refine (has_any _ _ m _ _ hss hm).mono ?_); rintro e w' ⟨rfl, rfl⟩)
                | (at_builtin; refine wpL_app (k := .i64) rfl _ _ 36 rfl w.heap.size 3 i0 (.int .i64 0) 8 Try.underlying36 hi hz0 hz1 hz2 rfl _ D rfl (ho.alloc _) _ _ [x] rfl (RdI.lit1 _ _ _ _) ?_ ?_ ?_ ?_; (focus (simp only [List.length_cons, List.length_nil]; exact maxLen_ge (by omega))); (focus (simp only [List.length_cons, List.length_nil]; omega)); (focus (simp; omega)); intro v2 w2 ho3 hg2 _))
              have h2 := bG (bA hbl _) hg2 hge.out
              have HO3 := Lib.hid ho3
              clear hg2 ho3 ho
              go_wp2
              go_roundw
              case rel => exact ⟨k + 1, x + 1, by omega, Lib.hid (by have := hx.out; omega), by omega, by omega, rfl, by rw [HE.out]; exact HO3.out, h2⟩
              case measure => simp [intOf]; omega
        · have hk3 : k = 3 := by have := hx.out; omega
          have e : ([1, 2, 3] : List Int).take k = [1, 2, 3] := by rw [hk3]; rfl
          rw [e] at ho
          have HO := Lib.hid ho
          clear e ho hk3
          go_wp2
          go_ret2
          exact ⟨_, by rw [E2.out] <;> rfl, by rw [E1.out]; exact HO.out, hbl⟩

set_option maxHeartbeats 8000000 in
set_option maxRecDepth 100000 in
theorem common_any (A B : Option Addr) (c d : Nat) (l m : List Int) (w : World) (hr : RdI w .i64 A l) (hs : RdI w .i64 B m) (hl : l.length ≤ 9223372036854775807) (hm : m.length ≤ 9223372036854775807) :
    Calls Try.prog 36 #[.slice A l.length c, .slice B m.length d] w (ListRet (comL l m) (some (comE l m)) w) := by
  cases h1 : isB l with
  | false =>
    have E1 := Lib.hid (comL_no (a := l) (b := m) (.inl h1))
    have E2 := Lib.hid (comE_no (a := l) (b := m) (.inl h1))
    go_enter Try.func36, Try.ntmps36
    go_wp2_with (go_at_call 43; (with_reducible refine (negoIs_any _ _ _ _ hr hl).mono ?_); rintro e w' ⟨rfl, n, rfl⟩)
    go_ret2
    exact ⟨_, by rw [E2.out] <;> rfl, by rw [E1.out]; exact World.ownsRow_nil _ _ _ _, (by repeat (first | (with_reducible exact bR _) | (with_reducible refine bT ?_ (by assumption)) | (with_reducible apply bA) | (with_reducible apply bD) | (with_reducible apply bN) | (with_reducible refine bS ?_ (by first | omega | (simp; done) | (simp; omega)))))⟩
  | true =>
    cases h2 : isB m with
    | false =>
      have E1 := Lib.hid (comL_no (a := l) (b := m) (.inr h2))
      have E2 := Lib.hid (comE_no (a := l) (b := m) (.inr h2))
      go_enter Try.func36, Try.ntmps36
      go_wp2_with (first
        | (go_at_call 43; (with_reducible refine (negoIs_any _ _ l _ hr hl).mono ?_); rintro e w' ⟨rfl, n, rfl⟩)
        | (go_at_call 43; (with_reducible refine (negoIs_any _ _ m _ ?_ hm).mono ?_); (focus (exact hs)); rintro e w' ⟨rfl, n2, rfl⟩))
      go_ret2
      exact ⟨_, by rw [E2.out] <;> rfl, by rw [E1.out]; exact World.ownsRow_nil _ _ _ _, (by repeat (first | (with_reducible exact bR _) | (with_reducible refine bT ?_ (by assumption)) | (with_reducible apply bA) | (with_reducible apply bD) | (with_reducible apply bN) | (with_reducible refine bS ?_ (by first | omega | (simp; done) | (simp; omega)))))⟩
    | true =>
      have E1 := Lib.hid (comL_both h1 h2)
      have E2 := Lib.hid (comE_ok h1 h2)
      have h3 := isB_len h1
      go_enter Try.func36, Try.ntmps36
      go_wp2_with (first
        | (go_at_call 43; (with_reducible refine (negoIs_any _ _ l _ hr hl).mono ?_); rintro e w' ⟨rfl, n, rfl⟩)
        | (go_at_call 43; (with_reducible refine (negoIs_any _ _ m _ ?_ hm).mono ?_); (focus (exact hs)); rintro e w' ⟨rfl, n2, rfl⟩)
        | (go_at_call 62; (with_reducible refine (both_any _ _ _ _ l m _ ?_ ?_ h3 hm).mono ?_); (focus (exact hr)); (focus (exact hs)); rintro e w' ⟨v, rfl, ho, hb⟩))
      go_ret2
      exact ⟨_, by rw [E2.out] <;> rfl, by rw [E1.out]; exact own_base ho (by simp), (by repeat (first | (with_reducible exact bR _) | (with_reducible refine bT ?_ (by assumption)) | (with_reducible apply bA) | (with_reducible apply bD) | (with_reducible apply bN) | (with_reducible refine bS ?_ (by first | omega | (simp; done) | (simp; omega)))))⟩
end Go.Proofs.Ythejnlelegcgfaa

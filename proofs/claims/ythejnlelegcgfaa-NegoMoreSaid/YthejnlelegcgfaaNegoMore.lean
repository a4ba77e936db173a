/- Layer 22's law NegoMore, walked: it comes to true, for all lists and every version. No condition. -/
import Derived.Test.YthejnlelegcgfaaNegoLaw
namespace Go.Proofs.Ythejnlelegcgfaa
open Go.RowKit
set_option linter.unusedVariables false
set_option linter.unusedSimpArgs false

theorem RdI.at1 {w : World} {k : IntKind} {ad : Addr} {l : List Int} {j : Nat} {x : Int} (h : RdI w k (some ad) l) (hj : j < l.length) (hx : l.getD j 0 = x) : w.cell? (ad.add j) = some (.int k x) := by
  obtain ⟨ad', e, hc⟩ := h.at_ hj
  obtain rfl := Option.some.inj e
  rw [hc, hx]

set_option maxHeartbeats 16000000 in
set_option maxRecDepth 100000 in
theorem negoMore_any (A B : Option Addr) (c d : Nat) (l m : List Int) (q : Int) (w : World) (hr : RdI w .i64 A l) (hs : RdI w .i64 B m) (hl : l.length ≤ 9223372036854775807) (hm : m.length ≤ 9223372036854775807) :
    Calls Try.prog 12 #[.slice A l.length c, .slice B m.length d, .int .i64 q] w fun e w' => e = .returned (.bool true) ∧ Below w.heap.size w w' := by
  have HB0 := Lib.hid (bR w)
  by_cases h1 : 100 < l.length
  · go_enter Try.func12, Try.ntmps12
    go_wp2_with fail
    refine (pick_any A B c d l m _ hr hs hl hm).mono ?_
    rintro e w1 ⟨rfl, hb1⟩
    have HB1 := Lib.hid (bT HB0.out hb1)
    clear hb1
    go_wp2_with fail
    refine (picked_any _).mono ?_
    rintro e w2 ⟨rfl, hb2⟩
    have HB2 := Lib.hid (bT HB1.out hb2)
    clear hb2
    go_wp2
    go_ret
    exact ⟨rfl, HB2.out⟩
  by_cases h2 : 100 < m.length
  · go_enter Try.func12, Try.ntmps12
    go_wp2_with fail
    refine (pick_any A B c d l m _ hr hs hl hm).mono ?_
    rintro e w1 ⟨rfl, hb1⟩
    have HB1 := Lib.hid (bT HB0.out hb1)
    clear hb1
    go_wp2_with fail
    refine (picked_any _).mono ?_
    rintro e w2 ⟨rfl, hb2⟩
    have HB2 := Lib.hid (bT HB1.out hb2)
    clear hb2
    go_wp2
    go_ret
    exact ⟨rfl, HB2.out⟩
  by_cases hE : pickE l m = 0
  case neg =>
    have hd : (pickE l m != 0) = true := by simpa using hE
    go_enter Try.func12, Try.ntmps12
    go_wp2_with fail
    refine (pick_any A B c d l m _ hr hs hl hm).mono ?_
    rintro e w1 ⟨rfl, hb1⟩
    have HB1 := Lib.hid (bT HB0.out hb1)
    clear hb1
    go_wp2_with fail
    refine (picked_any _).mono ?_
    rintro e w2 ⟨rfl, hb2⟩
    have HB2 := Lib.hid (bT HB1.out hb2)
    clear hb2
    go_wp2
    go_ret
    exact ⟨rfl, HB2.out⟩
  obtain ⟨hil, _, _⟩ := pick_ok hE
  have hl3 := isB_len hil
  have HI := Lib.hid (fun r => more_in (m := q) (c := r) hE)
  have HO := Lib.hid (fun r => more_out (m := q) (c := r) hE)
  have HL := Lib.hid (fun r => more_len (m := q) l [] false r)
  clear hil
  obtain ⟨i0, hi, hz0, hz1, hz2⟩ := info_parts infoI64
  go_enter Try.func12, Try.ntmps12
  go_wp2_with fail
  refine (pick_any A B c d l m _ hr hs hl hm).mono ?_
  rintro e w1 ⟨rfl, hb1⟩
  have HB1 := Lib.hid (bT HB0.out hb1)
  replace hr := hr.below hb1
  replace hs := hs.below hb1
  clear hb1
  go_wp2
  go_loopw [9, 10, 11] (fun v p i wr => ∃ (k : Nat) (C : List Int) (put : Bool), k ≤ l.length ∧ i = .int .i64 k ∧ p = .bool put ∧ wr.ownsRow w1.heap.size 3 1 v C.length (C.map (.int .i64)) ∧ C.length ≤ 2 * k ∧ Below w1.heap.size w1 wr ∧ Hid (moreGo q (l.drop k) C put = moreGo q l [] false)) (fun _ _ i _ => l.length - (intOf i).toNat)
  case atStart => exact ⟨0, [], false, Nat.zero_le _, rfl, rfl, own_lit0 _ _ _, by simp, bel1 _ _, Lib.hid (by simp)⟩
  case round =>
    obtain ⟨k, C, put, hk, rfl, rfl, ho, hCl, hbl, hg⟩ := hrel
    have hsr := hs.below hbl
    have hsz1 := HB1.out.size
    have hsz2 := hbl.size
    have HG := Lib.hid (own_ge ho)
    by_cases hlt : k < l.length
    · obtain ⟨ad, rfl, hc⟩ := (hr.below hbl).at_ hlt
      have e := hg.out
      rw [drop_cons hlt, moreGo_cons] at e
      have He := Lib.hid e
      clear e hg
      obtain ⟨x, hx0⟩ : ∃ x, l.getD k 0 = x := ⟨_, rfl⟩
      rw [hx0] at hc He
      have HX := Lib.hid hx0
      clear hx0
      have ONE : ∀ (put' : Bool) (v2 : Value) (w2 : World), True := fun _ _ _ => trivial
      clear ONE
      by_cases hx : x = q
      · have d1 : (x == q) = true := by simpa using hx
        clear hx ho He
        go_wp2_with fail
        refine (picked_any _).mono ?_
        rintro e w3 ⟨rfl, hb3⟩
        go_wp2
        go_ret
        exact ⟨rfl, bT (bT HB1.out hbl) hb3⟩
      · have d1 : (x == q) = false := by simpa using hx
        have e := He.out
        rw [if_neg hx] at e
        have He2 := Lib.hid e
        clear e He hx
        cases put with
        | true =>
          have e := He2.out
          rw [if_neg (by simp)] at e
          have He3 := Lib.hid e
          clear e He2
          by_cases hq : q < x
          · go_wp2_with (at_builtin; refine wpL_app (k := .i64) rfl _ _ 36 rfl w1.heap.size 3 i0 (.int .i64 0) 8 Try.underlying36 hi hz0 hz1 hz2 rfl _ C rfl (ho.alloc _) _ _ [x] rfl (RdI.lit1 _ _ _ _) ?_ ?_ ?_ ?_; (focus (simp only [List.length_append, List.length_cons, List.length_nil]; exact maxLen_ge (by omega))); (focus (simp only [List.length_append, List.length_cons, List.length_nil]; omega)); (focus (simp; omega)); intro v2 w2 ho3 hg2 _)
            have hbl2 := bG (bA hbl _) hg2 HG.out
            have HO3 := Lib.hid ho3
            clear hg2 ho3 ho
            go_wp2
            go_roundw
            case rel => exact ⟨k + 1, _, true, by omega, by go_num, rfl, HO3.out, by simp; omega, hbl2, He3⟩
            case measure => simp [intOf]; omega
          · have d2 : decide (q < x) = false := by simpa using hq
            go_wp2_with (at_builtin; refine wpL_app (k := .i64) rfl _ _ 36 rfl w1.heap.size 3 i0 (.int .i64 0) 8 Try.underlying36 hi hz0 hz1 hz2 rfl _ C rfl (ho.alloc _) _ _ [x] rfl (RdI.lit1 _ _ _ _) ?_ ?_ ?_ ?_; (focus (simp only [List.length_append, List.length_cons, List.length_nil]; exact maxLen_ge (by omega))); (focus (simp only [List.length_append, List.length_cons, List.length_nil]; omega)); (focus (simp; omega)); intro v2 w2 ho3 hg2 _)
            have hbl2 := bG (bA hbl _) hg2 HG.out
            have HO3 := Lib.hid ho3
            clear hg2 ho3 ho
            go_wp2
            go_roundw
            case rel => exact ⟨k + 1, _, true, by omega, by go_num, rfl, HO3.out, by simp; omega, hbl2, He3⟩
            case measure => simp [intOf]; omega
        | false =>
          by_cases hq : q < x
          · have e := He2.out
            rw [if_pos ⟨hq, rfl⟩] at e
            have He3 := Lib.hid e
            clear e He2
            go_wp2_with (first
              | (at_builtin; refine wpL_app (k := .i64) rfl _ _ 36 rfl w1.heap.size 3 i0 (.int .i64 0) 8 Try.underlying36 hi hz0 hz1 hz2 rfl _ C rfl (ho.alloc _) _ _ [q] rfl (RdI.lit1 _ _ _ _) ?_ ?_ ?_ ?_; (focus (simp only [List.length_append, List.length_cons, List.length_nil]; exact maxLen_ge (by omega))); (focus (simp only [List.length_append, List.length_cons, List.length_nil]; omega)); (focus (simp; omega)); intro v2 w2 ho3 hg2 _; have hbl2 := bG (bA hbl _) hg2 HG.out; have hc2 := RdI.at1 (hr.below hbl2) hlt HX.out; have HG2 := Lib.hid (own_ge ho3); have hsz3 := hbl2.size; clear ho hg2)
              | (at_builtin; refine wpL_app (k := .i64) rfl _ _ 36 rfl w1.heap.size 3 i0 (.int .i64 0) 8 Try.underlying36 hi hz0 hz1 hz2 rfl _ (C ++ [q]) rfl (ho3.alloc _) _ _ [x] rfl (RdI.lit1 _ _ _ _) ?_ ?_ ?_ ?_; (focus (simp only [List.length_append, List.length_cons, List.length_nil]; exact maxLen_ge (by omega))); (focus (simp only [List.length_append, List.length_cons, List.length_nil]; omega)); (focus (simp; omega)); intro v4 w4 ho5 hg4 _))
            have hbl4 := bG (bA hbl2 _) hg4 HG2.out
            have HO3 := Lib.hid ho5
            clear hg4 ho5 ho3
            go_wp2
            go_roundw
            case rel => exact ⟨k + 1, _, true, by omega, by go_num, rfl, HO3.out, by simp; omega, hbl4, He3⟩
            case measure => simp [intOf]; omega
          · have d2 : decide (q < x) = false := by simpa using hq
            have e := He2.out
            rw [if_neg (by simp [hq])] at e
            have He3 := Lib.hid e
            clear e He2
            go_wp2_with (at_builtin; refine wpL_app (k := .i64) rfl _ _ 36 rfl w1.heap.size 3 i0 (.int .i64 0) 8 Try.underlying36 hi hz0 hz1 hz2 rfl _ C rfl (ho.alloc _) _ _ [x] rfl (RdI.lit1 _ _ _ _) ?_ ?_ ?_ ?_; (focus (simp only [List.length_append, List.length_cons, List.length_nil]; exact maxLen_ge (by omega))); (focus (simp only [List.length_append, List.length_cons, List.length_nil]; omega)); (focus (simp; omega)); intro v2 w2 ho3 hg2 _)
            have hbl2 := bG (bA hbl _) hg2 HG.out
            have HO3 := Lib.hid ho3
            clear hg2 ho3 ho
            go_wp2
            go_roundw
            case rel => exact ⟨k + 1, _, false, by omega, by go_num, rfl, HO3.out, by simp; omega, hbl2, He3⟩
            case measure => simp [intOf]; omega
    · have e := hg.out
      rw [List.drop_eq_nil_of_le (by omega)] at e
      have hbw := bT HB1.out hbl
      obtain ⟨r, hrr⟩ : ∃ r, r = (if put = true then C else C ++ [q]) := ⟨_, rfl⟩
      have hm2 : moreGo q l [] false = some r := by rw [← e, hrr]; rfl
      have hrl := HL.out r hm2
      simp only [List.length_nil] at hrl
      have HM := Lib.hid hm2
      clear e hg hm2
      cases put with
      | true =>
        obtain rfl : r = C := by simpa using hrr
        obtain ⟨vA, vc, rfl, _, _⟩ := own_slice ho
        have hrd := RdI.of_own ho
        clear ho hrr
        go_wp2_with fail
        refine (pick_any vA B vc d r m _ hrd hsr (by omega) hm).mono ?_
        rintro e w5 ⟨rfl, hb5⟩
        by_cases hq1 : q < 1
        · have hEr := HO.out _ HM.out (.inl hq1)
          go_wp2_with fail
          refine (picked_any _).mono ?_
          rintro e w6 ⟨rfl, hb6⟩
          go_wp2
          go_ret
          exact ⟨by simp, bT (bT hbw hb5) hb6⟩
        · by_cases hq3 : 3 < q
          · have hEr := HO.out _ HM.out (.inr hq3)
            have d1 : decide (q < 1) = false := by simpa using hq1
            go_wp2_with fail
            refine (picked_any _).mono ?_
            rintro e w6 ⟨rfl, hb6⟩
            go_wp2
            go_ret
            exact ⟨by simp, bT (bT hbw hb5) hb6⟩
          · obtain ⟨hEr, hVr⟩ := HI.out _ HM.out (by omega) (by omega)
            have d1 : decide (q < 1) = false := by simpa using hq1
            go_wp2_with fail
            refine (picked_any _).mono ?_
            rintro e w6 ⟨rfl, hb6⟩
            go_wp2
            go_ret
            exact ⟨by simp, bT (bT hbw hb5) hb6⟩
      | false =>
        have hr2 : r = C ++ [q] := by simpa using hrr
        have hCr : C.length ≤ 7 := by rw [hr2] at hrl; simp at hrl; omega
        have HRR := Lib.hid hr2
        clear hrr hr2
        go_wp2_with (first
          | (at_builtin; refine wpL_app (k := .i64) rfl _ _ 36 rfl w1.heap.size 3 i0 (.int .i64 0) 8 Try.underlying36 hi hz0 hz1 hz2 rfl _ C rfl (ho.alloc _) _ _ [q] rfl (RdI.lit1 _ _ _ _) ?_ ?_ ?_ ?_; (focus (simp only [List.length_append, List.length_cons, List.length_nil]; exact maxLen_ge (by omega))); (focus (simp only [List.length_append, List.length_cons, List.length_nil]; omega)); (focus (simp; omega)); intro v2 w2 ho3 hg2 _; have hbl2 := bG (bA hbl _) hg2 HG.out; rw [← HRR.out] at ho3; obtain ⟨vA, vc, rfl, _, _⟩ := own_slice ho3; have hrd := RdI.of_own ho3; have hsr2 := hs.below hbl2; clear ho hg2 ho3))
        refine (pick_any vA B vc d r m _ hrd hsr2 (by omega) hm).mono ?_
        rintro e w5 ⟨rfl, hb5⟩
        by_cases hq1 : q < 1
        · have hEr := HO.out _ HM.out (.inl hq1)
          go_wp2_with fail
          refine (picked_any _).mono ?_
          rintro e w6 ⟨rfl, hb6⟩
          go_wp2
          go_ret
          exact ⟨by simp, bT (bT (bT HB1.out hbl2) hb5) hb6⟩
        · by_cases hq3 : 3 < q
          · have hEr := HO.out _ HM.out (.inr hq3)
            have d1 : decide (q < 1) = false := by simpa using hq1
            go_wp2_with fail
            refine (picked_any _).mono ?_
            rintro e w6 ⟨rfl, hb6⟩
            go_wp2
            go_ret
            exact ⟨by simp, bT (bT (bT HB1.out hbl2) hb5) hb6⟩
          · obtain ⟨hEr, hVr⟩ := HI.out _ HM.out (by omega) (by omega)
            have d1 : decide (q < 1) = false := by simpa using hq1
            go_wp2_with fail
            refine (picked_any _).mono ?_
            rintro e w6 ⟨rfl, hb6⟩
            go_wp2
            go_ret
            exact ⟨by simp, bT (bT (bT HB1.out hbl2) hb5) hb6⟩
end Go.Proofs.Ythejnlelegcgfaa

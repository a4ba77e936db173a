/- Digits, split into numbers, the program's side: the test of the widths, and the iterator over the parts. No condition. -/
import Derived.Test.YtachkhjbckapoaaT09
import Derived.Test.YtachkhjbckapoaaT13
namespace Go.Proofs.Ytachkhjbckapoaa
open Go.RowKit Go.Shelf
set_option linter.unusedVariables false
set_option maxRecDepth 100000
set_option linter.unusedSimpArgs false

theorem badW_any (x : Int) (w : World) : Calls Try.prog 136 #[.int .i64 x] w fun e w' => e = .returned (.bool (!(wB x 0 18))) ∧ w = w' := by
  by_cases h : x < 0
  · have hd : decide (x < 0) = true := by simpa using h
    have e := wB_no (n := x) (a := 0) (b := 18) (.inl h)
    have E := Lib.hid e
    clear e
    go_enter Try.func136, Try.ntmps136
    go_wp2
    go_ret
    exact ⟨by rw [E.out] <;> rfl, rfl⟩
  · have hd : decide (x < 0) = false := by simpa using h
    have E := Lib.hid (show (!(wB x 0 18)) = decide (18 < x) by unfold wB; by_cases k : x ≤ 18 <;> simp [k, show 0 ≤ x by omega, show (18 < x) ↔ ¬ x ≤ 18 by omega])
    go_enter Try.func136, Try.ntmps136
    go_wp2
    go_ret
    exact ⟨by rw [E.out] <;> rfl, rfl⟩

def badGo : Int → List Int → Int
  | _, [] => -1
  | k, x :: l => if wB x 0 18 = false then k else badGo (k + 1) l
theorem badGo_cons (k x : Int) (l : List Int) : badGo k (x :: l) = if wB x 0 18 = false then k else badGo (k + 1) l := rfl
theorem bad_sum : ∀ (l : List Int) (k s : Int), 0 ≤ k → (0 ≤ badGo k l ↔ sumGo l s = none)
  | [], k, s, h => by simp [badGo, sumGo]
  | x :: l, k, s, h => by
    rw [badGo_cons, sumGo_cons]
    by_cases e : x < 0 ∨ 18 < x
    · rw [if_pos (wB_no e), if_pos e]; simp [h]
    · rw [if_neg (by rw [wB_mk (by omega) (by omega)]; simp), if_neg e]
      exact bad_sum l (k + 1) (s + x) (by omega)

set_option maxHeartbeats 2000000 in
theorem indexF_any (A : Option Addr) (c : Nat) (l : List Int) (w : World) (hr : RdI w .i64 A l) (hl : l.length ≤ 9223372036854775807) :
    Calls Try.prog 156 #[.slice A l.length c, .func (.func 136) #[] #[]] w fun e w' => e = .returned (.int .i64 (badGo 0 l)) ∧ w = w' := by
  go_enter Try.func156, Try.ntmps156
  go_wp2
  go_loop [8] (fun i => ∃ k : Nat, k ≤ l.length ∧ i = .int .i64 k ∧ Hid (badGo k (l.drop k) = badGo 0 l)) (fun i => l.length - (intOf i).toNat)
  case atStart => exact ⟨0, Nat.zero_le _, rfl, Lib.hid (by simp)⟩
  case round =>
    obtain ⟨k, hk, rfl, hg⟩ := hrel
    by_cases hlt : k < l.length
    · obtain ⟨ad, rfl, hc⟩ := hr.at_ hlt
      have e := hg.out
      rw [drop_cons hlt, badGo_cons] at e
      have He := Lib.hid e
      clear e hg
      generalize l.getD k 0 = x at *
      cases hx : wB x 0 18 with
      | false =>
        have e := He.out
        rw [if_pos hx] at e
        have He2 := Lib.hid e
        clear e He
        go_wp2_with (go_at_call 136; (with_reducible refine (badW_any _ _).mono ?_); rintro e w' ⟨rfl, rfl⟩)
        go_ret
        exact ⟨by rw [← He2.out] <;> rfl, rfl⟩
      | true =>
        have e := He.out
        rw [if_neg (by simp [hx])] at e
        have He2 := Lib.hid e
        clear e He
        go_wp2_with (go_at_call 136; (with_reducible refine (badW_any _ _).mono ?_); rintro e w' ⟨rfl, rfl⟩)
        go_round
        case rel => exact ⟨k + 1, by omega, by go_num, He2⟩
        case measure => simp [intOf]; omega
    · have e := hg.out
      rw [List.drop_eq_nil_of_le (by omega)] at e
      have He := Lib.hid e
      clear e hg
      go_wp2
      go_ret
      exact ⟨by rw [← He.out] <;> rfl, rfl⟩

def badB (l : List Int) : Bool := decide (0 ≤ badGo 0 l)
theorem badB_iff (l : List Int) : badB l = true ↔ sumGo l 0 = none := by unfold badB; rw [decide_eq_true_eq]; exact bad_sum l 0 0 (by omega)
theorem containsF_any (A : Option Addr) (c : Nat) (l : List Int) (w : World) (hr : RdI w .i64 A l) (hl : l.length ≤ 9223372036854775807) :
    Calls Try.prog 135 #[.slice A l.length c, .func (.func 136) #[] #[]] w fun e w' => e = .returned (.bool (badB l)) ∧ w = w' := by
  go_enter Try.func135, Try.ntmps135
  go_wp2_with (go_at_call 156; (with_reducible refine (indexF_any _ _ _ _ hr hl).mono ?_); rintro e w' ⟨rfl, rfl⟩)
  go_ret
  exact ⟨rfl, rfl⟩

theorem parts_any (A B : Option Addr) (n c m d : Nat) (w : World) : Calls Try.prog 137 #[.slice A n c, .slice B m d] w fun e w' => e = .returned (.func (.func 157) #[] #[.pointer (some ⟨w.heap.size + 1, 0, none⟩), .pointer (some ⟨w.heap.size, 0, none⟩)]) ∧ (w.alloc (.cells #[.slice A n c] 30)).alloc (.cells #[.slice B m d] 97) = w' := by
  have hmf : ∀ (fn : Fn) (first cap : Array Value) (w : World), (Instr.makeFunc fn first cap).run Try.prog w = .ok (.func fn first cap) w := fun _ _ _ _ => rfl
  go_enter Try.func137, Try.ntmps137
  go_wp2
  go_ret
  exact ⟨rfl, rfl⟩

/-- Where part k begins. -/
def pos (m : List Int) (k : Nat) : Nat := ((m.take k).map Int.toNat).sum
theorem pos_zero (m : List Int) : pos m 0 = 0 := rfl
theorem pos_succ (m : List Int) {k : Nat} (h : k < m.length) : pos m (k + 1) = pos m k + (m.getD k 0).toNat := by
  unfold pos
  rw [List.take_succ_eq_append_getElem h, List.map_append, List.sum_append]
  simp [h]
theorem pos_sum {m : List Int} {N : Int} (h : sumGo m 0 = some N) : ∀ k, k ≤ m.length → sumGo (m.drop k) (pos m k) = some N
  | 0, _ => by simpa [pos] using h
  | k + 1, hk => by
    have := pos_sum h k (by omega)
    rw [drop_cons (show k < m.length by omega), sumGo_cons] at this
    split at this
    · cases this
    · rw [pos_succ m (by omega)]
      rw [← this]; congr 1; omega
theorem pos_next {m : List Int} {N : Nat} (h : sumGo m 0 = some (N : Int)) {k : Nat} (hk : k < m.length) : ∃ y : Nat, m.getD k 0 = (y : Int) ∧ y ≤ 18 ∧ pos m k + y ≤ N ∧ pos m (k + 1) = pos m k + y := by
  have h1 := pos_sum h k (by omega)
  rw [drop_cons hk, sumGo_cons] at h1
  split at h1
  · cases h1
  · rename_i hx
    have := sumGo_le _ _ _ h1
    obtain ⟨y, hy⟩ := Int.eq_ofNat_of_zero_le (show 0 ≤ m.getD k 0 by omega)
    rw [hy] at this hx
    exact ⟨y, hy, by omega, by omega, by rw [pos_succ m hk, hy]; simp⟩

attribute [local go_sem] Oper.semAt_some

set_option maxHeartbeats 8000000 in
set_option maxRecDepth 100000 in
theorem iter_any (n L Bl Bw : Nat) (hn : 1 ≤ n) (A B : Option Addr) (c d : Nat) (l m : List Int) (w0 : World) (hr : RdI w0 .u8 A l) (hs : RdI w0 .i64 B m) (hlc : l.length ≤ c) (hc9 : c ≤ 9223372036854775807) (hm : m.length ≤ 9223372036854775807) (hsum : sumGo m 0 = some (l.length : Int))
    (J : Nat → World → Prop) (Jx : World → Prop) (hJb : ∀ k W, J k W → Below w0.heap.size w0 W ∧ Boxed W Bw 97 (.slice B m.length d)) (hJs : ∀ k W v, J k W → J k (W.setCell ⟨Bl, 0, none⟩ v))
    (hY : ∀ (k : Nat) (A' : Option Addr) (c' y : Nat) (W : World), J k W → Boxed W Bl 30 (.slice A' (l.length - pos m k) c') → RdI w0 .u8 A' (l.drop (pos m k)) → k < m.length → m.getD k 0 = (y : Int) → pos m k + y ≤ l.length →
      YieldAt Fence.wide (n - 1) Try.prog L #[.slice A' y y] W fun e W' => (e = .returned (.bool true) ∧ J (k + 1) W' ∧ Boxed W' Bl 30 (.slice A' (l.length - pos m k) c')) ∨ (e = .returned (.bool false) ∧ Jx W'))
    (W : World) (h0 : J 0 W) (hbl : Boxed W Bl 30 (.slice A l.length c)) :
    CallsIn Fence.wide n Try.prog 157 #[.func (.yield L) #[] #[], .pointer (some ⟨Bw, 0, none⟩), .pointer (some ⟨Bl, 0, none⟩)] W fun e W' => (∃ v, e = .returned v) ∧ (J m.length W' ∨ Jx W') := by
  refine callsIn_of_wp Try.func157 rfl trivial ?_ rfl
  simp only [Try.ntmps157, List.size_toArray, List.length_cons, List.length_nil, Nat.reduceAdd, Nat.reduceSub, Array.replicate_succ, Array.replicate_zero, List.push_toArray, List.append_toArray, List.nil_append, List.cons_append]
  have hcw := (hJb 0 W h0).2.cell
  gi_wp2
  gi_loopw [8] (fun i wr => ∃ (k : Nat) (A' : Option Addr) (c' : Nat), k ≤ m.length ∧ i = .int .i64 k ∧ J k wr ∧ Boxed wr Bl 30 (.slice A' (l.length - pos m k) c') ∧ l.length - pos m k ≤ c' ∧ c' ≤ 9223372036854775807 ∧ RdI w0 .u8 A' (l.drop (pos m k))) (fun i _ => m.length - (intOf i).toNat)
  case atStart => exact ⟨0, A, c, Nat.zero_le _, rfl, h0, by simpa [pos] using hbl, by omega, hc9, by simpa [pos] using hr⟩
  case round =>
    obtain ⟨k, A', c', hk, rfl, hJ, hB, hcl, hcc, hra⟩ := hrel
    by_cases hlt : k < m.length
    · obtain ⟨y, hy0, hy18, hyN, hps⟩ := pos_next hsum hlt
      obtain ⟨bd, rfl, hc⟩ := (hs.below (hJb k wr hJ).1).at_ hlt
      rw [hy0] at hc
      have hcw2 := (hJb k wr hJ).2.cell
      have hb1 := hB.cell
      obtain ⟨fn, tmps, assign, body, hy, hR⟩ := hY k A' c' y wr hJ hB hra hlt hy0 hyN
      have hcut := hra.cut (c := c') y (by rw [List.length_drop]; omega)
      rw [List.drop_drop, ← hps] at hcut
      have hcase : c' = y ∨ ¬ c' = y := by omega
      have HN := Lib.hid hps
      clear hps hy0
      rcases hcase with rfl | hct
      · rw [if_pos rfl] at hcut
        have HCUT := Lib.hid hcut
        gi_wp2
        refine hR.mono ?_
        rintro e W3 (⟨rfl, hJ3, hb3⟩ | ⟨rfl, hx3⟩)
        · have hJ4 := hJs _ _ (.slice A' 0 0) hJ3
          have hfz := hb3.frozen
          have hc3 := hb3.cell
          have hb4 := hb3.set (.slice A' 0 0)
          have HJ4 := Lib.hid hJ4
          have HB4 := Lib.hid hb4
          have HL := Lib.hid (show l.length - pos m (k + 1) = 0 by rw [HN.out]; omega)
          clear hJ4 hb4 hJ3 hcut
          gi_wp2
          refine ⟨⟨k + 1, A', 0, by omega, by go_num, HJ4.out, by rw [HL.out]; exact HB4.out, by rw [HL.out]; omega, by omega, HCUT.out⟩, by simp [intOf]; omega⟩
        · gi_wp2
          refine bodyPost_ret (results_none rfl _ _ _) rfl ?_
          exact ⟨⟨_, rfl⟩, .inr hx3⟩
      · rw [if_neg hct] at hcut
        have HCUT := Lib.hid hcut
        gi_wp2
        refine hR.mono ?_
        rintro e W3 (⟨rfl, hJ3, hb3⟩ | ⟨rfl, hx3⟩)
        · have hJ4 := hJs _ _ (.slice (A'.map fun x => x.add y) (l.length - pos m k - y) (c' - y)) hJ3
          have hfz := hb3.frozen
          have hc3 := hb3.cell
          have hb4 := hb3.set (.slice (A'.map fun x => x.add y) (l.length - pos m k - y) (c' - y))
          have HJ4 := Lib.hid hJ4
          have HB4 := Lib.hid hb4
          have HL := Lib.hid (show l.length - pos m (k + 1) = l.length - pos m k - y by rw [HN.out]; omega)
          clear hJ4 hb4 hJ3 hcut
          gi_wp2
          refine ⟨⟨k + 1, (A'.map fun x => x.add y), (c' - y), by omega, by go_num, HJ4.out, by rw [HL.out]; exact HB4.out, by rw [HL.out]; omega, by omega, HCUT.out⟩, by simp [intOf]; omega⟩
        · gi_wp2
          refine bodyPost_ret (results_none rfl _ _ _) rfl ?_
          exact ⟨⟨_, rfl⟩, .inr hx3⟩
    · obtain rfl : k = m.length := by omega
      have HJ := Lib.hid hJ
      clear hJ
      gi_wp2
      go_end0
      exact ⟨⟨_, rfl⟩, .inl HJ.out⟩
end Go.Proofs.Ytachkhjbckapoaa

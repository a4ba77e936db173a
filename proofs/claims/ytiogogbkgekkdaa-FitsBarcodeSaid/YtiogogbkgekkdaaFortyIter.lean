/- Layer 16: the groups of some bytes, as an iterator. No condition. -/
import Derived.Test.YtiogogbkgekkdaaBcdSplitRef
import Derived.Test.YtiogogbkgekkdaaRange
import Derived.Test.YtiogogbkgekkdaaFortyPure
namespace Go.Proofs.Ytiogogbkgekkdaa
open Go.RowKit Go.Shelf
set_option linter.unusedVariables false
set_option maxRecDepth 100000
set_option linter.unusedSimpArgs false

theorem groups_any (A : Option Addr) (n c : Nat) (sz : Int) (w : World) : Calls Try.prog 75 #[.slice A n c, .int .i64 sz] w fun e w' => e = .returned (.func (.func 127) #[] #[.pointer (some ⟨w.heap.size, 0, none⟩), .pointer (some ⟨w.heap.size + 1, 0, none⟩)]) ∧ (w.alloc (.cells #[.slice A n c] 24)).alloc (.cells #[.int .i64 sz] 3) = w' := by
  have hmf : ∀ (fn : Fn) (first cap : Array Value) (w : World), (Instr.makeFunc fn first cap).run Try.prog w = .ok (.func fn first cap) w := fun _ _ _ _ => rfl
  go_enter Try.func75, Try.ntmps75
  go_wp2
  go_ret
  exact ⟨rfl, rfl⟩

def lenCell (W : World) (b : Nat) : Nat := match W.cell? ⟨b, 0, none⟩ with
  | some (.slice _ n _) => n
  | _ => 0
theorem lenCell_boxed {W : World} {b : Nat} {t : TypeId} {A : Option Addr} {n c : Nat} (h : Boxed W b t (.slice A n c)) : lenCell W b = n := by unfold lenCell; rw [h.cell]

theorem map_addF {s : Nat} (A : Option Addr) : A.map (fun x : Addr => x.add (s + 1)) = A.map (fun x : Addr => (⟨x.block, x.off + (s + 1), none⟩ : Addr)) := by cases A <;> simp [Addr.add]
attribute [local go_sem] Oper.semAt_some
set_option maxHeartbeats 8000000 in
theorem fiter2_any (n L Bl Bs N : Nat) (hn : 1 ≤ n) (A : Option Addr) (c : Nat) (l : List Int) (w0 : World) (hr : RdI w0 .u8 A l) (hlc : l.length ≤ c) (hc9 : c ≤ 9223372036854775807) (hN : N = (l.length + 1) / 2)
    (J : Nat → World → Prop) (Jx : World → Prop) (hJb : ∀ k W, J k W → Below w0.heap.size w0 W ∧ Boxed W Bs 3 (.int .i64 2)) (hJs : ∀ k W v, J k W → J k (W.setCell ⟨Bl, 0, none⟩ v))
    (hY : ∀ (k : Nat) (A' : Option Addr) (c' m : Nat) (q : List Int) (W : World), J k W → Boxed W Bl 24 (.slice A' q.length c') → RdI w0 .u8 A' q → l.drop (2 * k) = q → 0 < q.length → m = min 2 q.length →
      YieldAt Fence.wide (n - 1) Try.prog L #[.slice A' m c'] W fun e W' => (e = .returned (.bool true) ∧ J (k + 1) W' ∧ Boxed W' Bl 24 (.slice A' q.length c')) ∨ (e = .returned (.bool false) ∧ Jx W'))
    (W : World) (h0 : J 0 W) (hbl : Boxed W Bl 24 (.slice A l.length c)) :
    CallsIn Fence.wide n Try.prog 127 #[.func (.yield L) #[] #[], .pointer (some ⟨Bl, 0, none⟩), .pointer (some ⟨Bs, 0, none⟩)] W fun e W' => (∃ v, e = .returned v) ∧ (J N W' ∨ Jx W') := by
  have HN := Lib.hid hN
  clear hN
  refine callsIn_of_wp Try.func127 rfl trivial ?_ rfl
  simp only [Try.ntmps127, List.size_toArray, List.length_cons, List.length_nil, Nat.reduceAdd, Nat.reduceSub, Array.replicate_succ, Array.replicate_zero, List.push_toArray, List.append_toArray, List.nil_append, List.cons_append]
  gi_wp2
  gi_loopw [4] (fun _ wr => ∃ (k : Nat) (A' : Option Addr) (c' : Nat) (q : List Int), J k wr ∧ Boxed wr Bl 24 (.slice A' q.length c') ∧ q.length ≤ c' ∧ c' ≤ 9223372036854775807 ∧ RdI w0 .u8 A' q ∧ Hid (l.drop (2 * k) = q) ∧ 2 * k < l.length + 2) (fun _ wr => lenCell wr Bl)
  case atStart => exact ⟨0, A, c, l, h0, hbl, hlc, hc9, hr, Lib.hid (by simp), by omega⟩
  case round =>
    obtain ⟨k, A', c', q, hJ, hB, hcl, hcc, hra, hq, hkl⟩ := hrel
    have hb1 := hB.cell
    have hcw2 := (hJb k wr hJ).2.cell
    by_cases hp : 0 < q.length
    · have d1 : (0 : Int) < (q.length : Int) := by omega
      have hkn : 2 * k + q.length = l.length := by
        have h := congrArg List.length hq.out
        rw [List.length_drop] at h
        omega
      by_cases hs : 2 ≤ q.length
      · have m1 : min (2 : Int) (q.length : Int) = 2 := by omega
        have s1 : (2 : Int) ≤ (c' : Int) := by omega
        have s2 : (2 : Int) ≤ (q.length : Int) := by omega
        obtain ⟨fn, tmps, assign, body, hy, hR⟩ := hY k A' c' 2 q wr hJ hB hra hq.out hp (by omega)
        have HKN := Lib.hid hkn
        clear hkn
        by_cases hct : c' = 2
        · subst hct
          gi_wp2
          refine hR.mono ?_
          rintro e W3 (⟨rfl, hJ3, hb3⟩ | ⟨rfl, hx3⟩)
          · have hJ4 := hJs _ _ (.slice A' 0 0) hJ3
            have hfz := hb3.frozen
            have hc3 := hb3.cell
            have hcw3 := (hJb _ W3 hJ3).2.cell
            have hb4 := hb3.set (.slice A' 0 0)
            have HJ4 := Lib.hid hJ4
            have HB4 := Lib.hid hb4
            clear hJ4 hb4 hJ3
            gi_wp2
            refine ⟨⟨k + 1, A', 0, q.drop q.length, HJ4.out, by rw [List.length_drop, Nat.sub_self]; exact HB4.out, by rw [List.length_drop]; omega, by omega, (by rw [List.drop_length]; exact RdI.nil _ _ _), Lib.hid (by rw [List.drop_length]; exact List.drop_eq_nil_of_le (by have := HKN.out; omega)), by have := HKN.out; omega⟩, by rw [lenCell_boxed HB4.out, lenCell_boxed hB]; omega⟩
          · gi_wp2
            refine bodyPost_ret (results_none rfl _ _ _) rfl ?_
            exact ⟨⟨_, rfl⟩, .inr hx3⟩
        · gi_wp2
          refine hR.mono ?_
          rintro e W3 (⟨rfl, hJ3, hb3⟩ | ⟨rfl, hx3⟩)
          · have hJ4 := hJs _ _ (.slice (A'.map fun x => (⟨x.block, x.off + 2, none⟩ : Addr)) (q.length - 2) (c' - 2)) hJ3
            have hfz := hb3.frozen
            have hc3 := hb3.cell
            have hcw3 := (hJb _ W3 hJ3).2.cell
            have hb4 := hb3.set (.slice (A'.map fun x => (⟨x.block, x.off + 2, none⟩ : Addr)) (q.length - 2) (c' - 2))
            have HJ4 := Lib.hid hJ4
            have HB4 := Lib.hid hb4
            clear hJ4 hb4 hJ3
            gi_wp2
            refine ⟨⟨k + 1, (A'.map fun x => (⟨x.block, x.off + 2, none⟩ : Addr)), (c' - 2), q.drop 2, HJ4.out, by rw [List.length_drop]; exact HB4.out, by rw [List.length_drop]; omega, by omega, (by have h := hra.cut (c := c') 2 (by omega); rw [if_neg hct, map_addF] at h; exact h), Lib.hid (by have h := hq.out; rw [← h, List.drop_drop, show 2 * k + 2 = 2 * (k + 1) by omega]), by have := HKN.out; omega⟩, by rw [lenCell_boxed HB4.out, lenCell_boxed hB]; omega⟩
          · gi_wp2
            refine bodyPost_ret (results_none rfl _ _ _) rfl ?_
            exact ⟨⟨_, rfl⟩, .inr hx3⟩
      · have m1 : min (2 : Int) (q.length : Int) = (q.length : Int) := by omega
        have s1 : (q.length : Int) ≤ (c' : Int) := by omega
        obtain ⟨fn, tmps, assign, body, hy, hR⟩ := hY k A' c' q.length q wr hJ hB hra hq.out hp (by omega)
        have HKN := Lib.hid hkn
        clear hkn
        by_cases hct : c' = q.length
        · subst hct
          gi_wp2
          refine hR.mono ?_
          rintro e W3 (⟨rfl, hJ3, hb3⟩ | ⟨rfl, hx3⟩)
          · have hJ4 := hJs _ _ (.slice A' 0 0) hJ3
            have hfz := hb3.frozen
            have hc3 := hb3.cell
            have hcw3 := (hJb _ W3 hJ3).2.cell
            have hb4 := hb3.set (.slice A' 0 0)
            have HJ4 := Lib.hid hJ4
            have HB4 := Lib.hid hb4
            clear hJ4 hb4 hJ3
            gi_wp2
            refine ⟨⟨k + 1, A', 0, q.drop q.length, HJ4.out, by rw [List.length_drop, Nat.sub_self]; exact HB4.out, by rw [List.length_drop]; omega, by omega, (by rw [List.drop_length]; exact RdI.nil _ _ _), Lib.hid (by rw [List.drop_length]; exact List.drop_eq_nil_of_le (by have := HKN.out; omega)), by have := HKN.out; omega⟩, by rw [lenCell_boxed HB4.out, lenCell_boxed hB]; omega⟩
          · gi_wp2
            refine bodyPost_ret (results_none rfl _ _ _) rfl ?_
            exact ⟨⟨_, rfl⟩, .inr hx3⟩
        · gi_wp2
          refine hR.mono ?_
          rintro e W3 (⟨rfl, hJ3, hb3⟩ | ⟨rfl, hx3⟩)
          · have hJ4 := hJs _ _ (.slice (A'.map fun x => x.add q.length) 0 (c' - q.length)) hJ3
            have hfz := hb3.frozen
            have hc3 := hb3.cell
            have hcw3 := (hJb _ W3 hJ3).2.cell
            have hb4 := hb3.set (.slice (A'.map fun x => x.add q.length) 0 (c' - q.length))
            have HJ4 := Lib.hid hJ4
            have HB4 := Lib.hid hb4
            clear hJ4 hb4 hJ3
            gi_wp2
            refine ⟨⟨k + 1, (A'.map fun x => x.add q.length), (c' - q.length), q.drop q.length, HJ4.out, by rw [List.length_drop, Nat.sub_self]; exact HB4.out, by rw [List.length_drop]; omega, by omega, (by rw [List.drop_length]; exact RdI.nil _ _ _), Lib.hid (by rw [List.drop_length]; exact List.drop_eq_nil_of_le (by have := HKN.out; omega)), by have := HKN.out; omega⟩, by rw [lenCell_boxed HB4.out, lenCell_boxed hB]; omega⟩
          · gi_wp2
            refine bodyPost_ret (results_none rfl _ _ _) rfl ?_
            exact ⟨⟨_, rfl⟩, .inr hx3⟩
    · have hz : q = [] := List.eq_nil_of_length_eq_zero (by omega)
      have hkn : l.length ≤ 2 * k := by
        have h := congrArg List.length hq.out
        rw [List.length_drop, hz] at h
        simp at h
        omega
      have HE := Lib.hid (show k = N by have := HN.out; omega)
      have HJ := Lib.hid hJ
      have d1 : ¬ (0 : Int) < (q.length : Int) := by omega
      clear hJ hz hkn
      gi_wp2
      go_end0
      exact ⟨⟨_, rfl⟩, .inl (by have h := HJ.out; rw [HE.out] at h; exact h)⟩


set_option maxHeartbeats 8000000 in
theorem fiter3_any (n L Bl Bs N : Nat) (hn : 1 ≤ n) (A : Option Addr) (c : Nat) (l : List Int) (w0 : World) (hr : RdI w0 .u8 A l) (hlc : l.length ≤ c) (hc9 : c ≤ 9223372036854775807) (hN : N = (l.length + 2) / 3)
    (J : Nat → World → Prop) (Jx : World → Prop) (hJb : ∀ k W, J k W → Below w0.heap.size w0 W ∧ Boxed W Bs 3 (.int .i64 3)) (hJs : ∀ k W v, J k W → J k (W.setCell ⟨Bl, 0, none⟩ v))
    (hY : ∀ (k : Nat) (A' : Option Addr) (c' m : Nat) (q : List Int) (W : World), J k W → Boxed W Bl 24 (.slice A' q.length c') → RdI w0 .u8 A' q → l.drop (3 * k) = q → 0 < q.length → m = min 3 q.length →
      YieldAt Fence.wide (n - 1) Try.prog L #[.slice A' m c'] W fun e W' => (e = .returned (.bool true) ∧ J (k + 1) W' ∧ Boxed W' Bl 24 (.slice A' q.length c')) ∨ (e = .returned (.bool false) ∧ Jx W'))
    (W : World) (h0 : J 0 W) (hbl : Boxed W Bl 24 (.slice A l.length c)) :
    CallsIn Fence.wide n Try.prog 127 #[.func (.yield L) #[] #[], .pointer (some ⟨Bl, 0, none⟩), .pointer (some ⟨Bs, 0, none⟩)] W fun e W' => (∃ v, e = .returned v) ∧ (J N W' ∨ Jx W') := by
  have HN := Lib.hid hN
  clear hN
  refine callsIn_of_wp Try.func127 rfl trivial ?_ rfl
  simp only [Try.ntmps127, List.size_toArray, List.length_cons, List.length_nil, Nat.reduceAdd, Nat.reduceSub, Array.replicate_succ, Array.replicate_zero, List.push_toArray, List.append_toArray, List.nil_append, List.cons_append]
  gi_wp2
  gi_loopw [4] (fun _ wr => ∃ (k : Nat) (A' : Option Addr) (c' : Nat) (q : List Int), J k wr ∧ Boxed wr Bl 24 (.slice A' q.length c') ∧ q.length ≤ c' ∧ c' ≤ 9223372036854775807 ∧ RdI w0 .u8 A' q ∧ Hid (l.drop (3 * k) = q) ∧ 3 * k < l.length + 3) (fun _ wr => lenCell wr Bl)
  case atStart => exact ⟨0, A, c, l, h0, hbl, hlc, hc9, hr, Lib.hid (by simp), by omega⟩
  case round =>
    obtain ⟨k, A', c', q, hJ, hB, hcl, hcc, hra, hq, hkl⟩ := hrel
    have hb1 := hB.cell
    have hcw2 := (hJb k wr hJ).2.cell
    by_cases hp : 0 < q.length
    · have d1 : (0 : Int) < (q.length : Int) := by omega
      have hkn : 3 * k + q.length = l.length := by
        have h := congrArg List.length hq.out
        rw [List.length_drop] at h
        omega
      by_cases hs : 3 ≤ q.length
      · have m1 : min (3 : Int) (q.length : Int) = 3 := by omega
        have s1 : (3 : Int) ≤ (c' : Int) := by omega
        have s2 : (3 : Int) ≤ (q.length : Int) := by omega
        obtain ⟨fn, tmps, assign, body, hy, hR⟩ := hY k A' c' 3 q wr hJ hB hra hq.out hp (by omega)
        have HKN := Lib.hid hkn
        clear hkn
        by_cases hct : c' = 3
        · subst hct
          gi_wp2
          refine hR.mono ?_
          rintro e W3 (⟨rfl, hJ3, hb3⟩ | ⟨rfl, hx3⟩)
          · have hJ4 := hJs _ _ (.slice A' 0 0) hJ3
            have hfz := hb3.frozen
            have hc3 := hb3.cell
            have hcw3 := (hJb _ W3 hJ3).2.cell
            have hb4 := hb3.set (.slice A' 0 0)
            have HJ4 := Lib.hid hJ4
            have HB4 := Lib.hid hb4
            clear hJ4 hb4 hJ3
            gi_wp2
            refine ⟨⟨k + 1, A', 0, q.drop q.length, HJ4.out, by rw [List.length_drop, Nat.sub_self]; exact HB4.out, by rw [List.length_drop]; omega, by omega, (by rw [List.drop_length]; exact RdI.nil _ _ _), Lib.hid (by rw [List.drop_length]; exact List.drop_eq_nil_of_le (by have := HKN.out; omega)), by have := HKN.out; omega⟩, by rw [lenCell_boxed HB4.out, lenCell_boxed hB]; omega⟩
          · gi_wp2
            refine bodyPost_ret (results_none rfl _ _ _) rfl ?_
            exact ⟨⟨_, rfl⟩, .inr hx3⟩
        · gi_wp2
          refine hR.mono ?_
          rintro e W3 (⟨rfl, hJ3, hb3⟩ | ⟨rfl, hx3⟩)
          · have hJ4 := hJs _ _ (.slice (A'.map fun x => (⟨x.block, x.off + 3, none⟩ : Addr)) (q.length - 3) (c' - 3)) hJ3
            have hfz := hb3.frozen
            have hc3 := hb3.cell
            have hcw3 := (hJb _ W3 hJ3).2.cell
            have hb4 := hb3.set (.slice (A'.map fun x => (⟨x.block, x.off + 3, none⟩ : Addr)) (q.length - 3) (c' - 3))
            have HJ4 := Lib.hid hJ4
            have HB4 := Lib.hid hb4
            clear hJ4 hb4 hJ3
            gi_wp2
            refine ⟨⟨k + 1, (A'.map fun x => (⟨x.block, x.off + 3, none⟩ : Addr)), (c' - 3), q.drop 3, HJ4.out, by rw [List.length_drop]; exact HB4.out, by rw [List.length_drop]; omega, by omega, (by have h := hra.cut (c := c') 3 (by omega); rw [if_neg hct, map_addF] at h; exact h), Lib.hid (by have h := hq.out; rw [← h, List.drop_drop, show 3 * k + 3 = 3 * (k + 1) by omega]), by have := HKN.out; omega⟩, by rw [lenCell_boxed HB4.out, lenCell_boxed hB]; omega⟩
          · gi_wp2
            refine bodyPost_ret (results_none rfl _ _ _) rfl ?_
            exact ⟨⟨_, rfl⟩, .inr hx3⟩
      · have m1 : min (3 : Int) (q.length : Int) = (q.length : Int) := by omega
        have s1 : (q.length : Int) ≤ (c' : Int) := by omega
        obtain ⟨fn, tmps, assign, body, hy, hR⟩ := hY k A' c' q.length q wr hJ hB hra hq.out hp (by omega)
        have HKN := Lib.hid hkn
        clear hkn
        by_cases hct : c' = q.length
        · subst hct
          gi_wp2
          refine hR.mono ?_
          rintro e W3 (⟨rfl, hJ3, hb3⟩ | ⟨rfl, hx3⟩)
          · have hJ4 := hJs _ _ (.slice A' 0 0) hJ3
            have hfz := hb3.frozen
            have hc3 := hb3.cell
            have hcw3 := (hJb _ W3 hJ3).2.cell
            have hb4 := hb3.set (.slice A' 0 0)
            have HJ4 := Lib.hid hJ4
            have HB4 := Lib.hid hb4
            clear hJ4 hb4 hJ3
            gi_wp2
            refine ⟨⟨k + 1, A', 0, q.drop q.length, HJ4.out, by rw [List.length_drop, Nat.sub_self]; exact HB4.out, by rw [List.length_drop]; omega, by omega, (by rw [List.drop_length]; exact RdI.nil _ _ _), Lib.hid (by rw [List.drop_length]; exact List.drop_eq_nil_of_le (by have := HKN.out; omega)), by have := HKN.out; omega⟩, by rw [lenCell_boxed HB4.out, lenCell_boxed hB]; omega⟩
          · gi_wp2
            refine bodyPost_ret (results_none rfl _ _ _) rfl ?_
            exact ⟨⟨_, rfl⟩, .inr hx3⟩
        · gi_wp2
          refine hR.mono ?_
          rintro e W3 (⟨rfl, hJ3, hb3⟩ | ⟨rfl, hx3⟩)
          · have hJ4 := hJs _ _ (.slice (A'.map fun x => x.add q.length) 0 (c' - q.length)) hJ3
            have hfz := hb3.frozen
            have hc3 := hb3.cell
            have hcw3 := (hJb _ W3 hJ3).2.cell
            have hb4 := hb3.set (.slice (A'.map fun x => x.add q.length) 0 (c' - q.length))
            have HJ4 := Lib.hid hJ4
            have HB4 := Lib.hid hb4
            clear hJ4 hb4 hJ3
            gi_wp2
            refine ⟨⟨k + 1, (A'.map fun x => x.add q.length), (c' - q.length), q.drop q.length, HJ4.out, by rw [List.length_drop, Nat.sub_self]; exact HB4.out, by rw [List.length_drop]; omega, by omega, (by rw [List.drop_length]; exact RdI.nil _ _ _), Lib.hid (by rw [List.drop_length]; exact List.drop_eq_nil_of_le (by have := HKN.out; omega)), by have := HKN.out; omega⟩, by rw [lenCell_boxed HB4.out, lenCell_boxed hB]; omega⟩
          · gi_wp2
            refine bodyPost_ret (results_none rfl _ _ _) rfl ?_
            exact ⟨⟨_, rfl⟩, .inr hx3⟩
    · have hz : q = [] := List.eq_nil_of_length_eq_zero (by omega)
      have hkn : l.length ≤ 3 * k := by
        have h := congrArg List.length hq.out
        rw [List.length_drop, hz] at h
        simp at h
        omega
      have HE := Lib.hid (show k = N by have := HN.out; omega)
      have HJ := Lib.hid hJ
      have d1 : ¬ (0 : Int) < (q.length : Int) := by omega
      clear hJ hz hkn
      gi_wp2
      go_end0
      exact ⟨⟨_, rfl⟩, .inl (by have h := HJ.out; rw [HE.out] at h; exact h)⟩

end Go.Proofs.Ytiogogbkgekkdaa

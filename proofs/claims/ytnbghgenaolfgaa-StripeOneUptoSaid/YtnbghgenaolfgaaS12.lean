/- Layer 16, the plain facts: bytes as signs of 45, two bytes as three signs; what was put is got again, and what was got is put as it was. Layer 16: the groups of some bytes, as an iterator. Layer 16: a sign out of the string of all signs. No condition. -/
import Derived.Test.YtnbghgenaolfgaaS00
import Derived.Test.YtnbghgenaolfgaaS09
import Derived.Laws.Strings
namespace Go.Proofs.Ytnbghgenaolfgaa
open Go.RowKit
set_option linter.unusedVariables false
set_option maxRecDepth 100000
set_option linter.unusedSimpArgs false

def S45 : List Int := [48, 49, 50, 51, 52, 53, 54, 55, 56, 57, 65, 66, 67, 68, 69, 70, 71, 72, 73, 74, 75, 76, 77, 78, 79, 80, 81, 82, 83, 84, 85, 86, 87, 88, 89, 90, 32, 36, 37, 42, 43, 45, 46, 47, 58]
/-- The sign of a number. -/
def sg45 (n : Int) : Int := S45.getD n.toNat 0
def dgGo (c : Int) : List Int → Int → Int
  | [], _ => -1
  | x :: l, k => if x = c then k else dgGo c l (k + 1)
/-- The number of a sign; -1, if it is none. -/
def dg45 (c : Int) : Int := dgGo c S45 0
def fortyPut : List Int → List Int
  | [] => []
  | [x] => [sg45 (x % 45), sg45 (x / 45)]
  | x :: y :: t => sg45 ((256 * x + y) % 45) :: sg45 ((256 * x + y) / 45 % 45) :: sg45 ((256 * x + y) / 45 / 45) :: fortyPut t
def bad3 (a b c : Int) : Bool := decide (dg45 a < 0) || decide (dg45 b < 0) || decide (dg45 c < 0)
def bad2 (a b : Int) : Bool := decide (dg45 a < 0) || decide (dg45 b < 0)
def n3 (a b c : Int) : Int := dg45 a + 45 * dg45 b + 2025 * dg45 c
def n2 (a b : Int) : Int := dg45 a + 45 * dg45 b
def fortyGo : List Int → List Int → List Int × Int
  | [], acc => (acc, 0)
  | [_], _ => ([], 14)
  | [a, b], acc => if bad2 a b then ([], 7) else if 255 < n2 a b then ([], 23) else (acc ++ [n2 a b], 0)
  | a :: b :: c :: t, acc => if bad3 a b c then ([], 7) else if 65535 < n3 a b c then ([], 23) else fortyGo t (acc ++ [n3 a b c / 256, n3 a b c % 256])
def fortyGet (s : List Int) : List Int × Int := if s.length % 3 = 1 then ([], 14) else fortyGo s []

theorem sg_dg : ∀ n : Fin 45, dg45 (sg45 (n.val : Int)) = (n.val : Int) := by decide
theorem sg_dg' {n : Int} (h0 : 0 ≤ n) (h : n < 45) : dg45 (sg45 n) = n := by
  have := sg_dg ⟨n.toNat, by omega⟩
  simpa [show ((n.toNat : Nat) : Int) = n by omega] using this
theorem dgGo_sg : ∀ (l : List Int) (c k : Int), 0 ≤ k → dgGo c l k < 0 ∨ (k ≤ dgGo c l k ∧ dgGo c l k < k + l.length ∧ l.getD (dgGo c l k - k).toNat 0 = c)
  | [], c, k, h => .inl (by simp [dgGo])
  | x :: l, c, k, h => by
    unfold dgGo
    by_cases e : x = c
    · rw [if_pos e]; right; refine ⟨by omega, by simp; omega, by simp [e]⟩
    · rw [if_neg e]
      rcases dgGo_sg l c (k + 1) (by omega) with h | ⟨h1, h2, h3⟩
      · exact .inl h
      · right
        refine ⟨by omega, by simp; omega, ?_⟩
        obtain ⟨m, hm⟩ : ∃ m : Nat, dgGo c l (k + 1) - (k + 1) = m := ⟨(dgGo c l (k + 1) - (k + 1)).toNat, by omega⟩
        have e2 : (dgGo c l (k + 1) - k).toNat = m + 1 := by omega
        rw [e2, List.getD_cons_succ, ← h3, hm]; simp
theorem dg_sg {c : Int} (h : ¬ dg45 c < 0) : sg45 (dg45 c) = c ∧ 0 ≤ dg45 c ∧ dg45 c < 45 := by
  rcases dgGo_sg S45 c 0 (by omega) with h' | ⟨h1, h2, h3⟩
  · exact absurd h' h
  · refine ⟨?_, h1, ?_⟩
    · unfold sg45; unfold dg45; simpa using h3
    · have : S45.length = 45 := by decide
      unfold dg45; omega
theorem dg_le (c : Int) : dg45 c < 45 := by
  by_cases h : dg45 c < 0
  · omega
  · exact (dg_sg h).2.2
theorem sg_byte (n : Int) : 0 ≤ sg45 n ∧ sg45 n < 256 := by
  unfold sg45
  have h : ∀ x ∈ S45, 0 ≤ x ∧ x < 256 := by decide
  rw [List.getD_eq_getElem?_getD]
  cases e : S45[n.toNat]? with
  | none => simp
  | some x => simpa using h x (List.mem_of_getElem? e)

theorem fortyPut_byte : ∀ (l : List Int), ∀ x ∈ fortyPut l, 0 ≤ x ∧ x < 256
  | [], x, h => by simp [fortyPut] at h
  | [y], x, h => by simp [fortyPut] at h; rcases h with rfl | rfl <;> exact sg_byte _
  | y :: z :: t, x, h => by
    simp only [fortyPut, List.mem_cons] at h
    rcases h with rfl | rfl | rfl | h
    · exact sg_byte _
    · exact sg_byte _
    · exact sg_byte _
    · exact fortyPut_byte t x h
theorem fortyPut_len : ∀ (l : List Int), (fortyPut l).length = l.length + (l.length + 1) / 2
  | [] => by simp [fortyPut]
  | [y] => by simp [fortyPut]
  | y :: z :: t => by simp only [fortyPut, List.length_cons, fortyPut_len t]; omega
theorem n3_of {x y : Int} (hx : 0 ≤ x ∧ x < 256) (hy : 0 ≤ y ∧ y < 256) : bad3 (sg45 ((256 * x + y) % 45)) (sg45 ((256 * x + y) / 45 % 45)) (sg45 ((256 * x + y) / 45 / 45)) = false ∧ n3 (sg45 ((256 * x + y) % 45)) (sg45 ((256 * x + y) / 45 % 45)) (sg45 ((256 * x + y) / 45 / 45)) = 256 * x + y := by
  have e1 := sg_dg' (n := (256 * x + y) % 45) (by omega) (by omega)
  have e2 := sg_dg' (n := (256 * x + y) / 45 % 45) (by omega) (by omega)
  have e3 := sg_dg' (n := (256 * x + y) / 45 / 45) (by omega) (by omega)
  unfold bad3 n3
  rw [e1, e2, e3]
  refine ⟨?_, by omega⟩
  simp only [Bool.or_eq_false_iff, decide_eq_false_iff_not]
  omega
theorem n2_of {x : Int} (hx : 0 ≤ x ∧ x < 256) : bad2 (sg45 (x % 45)) (sg45 (x / 45)) = false ∧ n2 (sg45 (x % 45)) (sg45 (x / 45)) = x := by
  have e1 := sg_dg' (n := x % 45) (by omega) (by omega)
  have e2 := sg_dg' (n := x / 45) (by omega) (by omega)
  unfold bad2 n2
  rw [e1, e2]
  refine ⟨?_, by omega⟩
  simp only [Bool.or_eq_false_iff, decide_eq_false_iff_not]
  omega
theorem fortyGo_put : ∀ (l acc : List Int), (∀ x ∈ l, 0 ≤ x ∧ x < 256) → fortyGo (fortyPut l) acc = (acc ++ l, 0)
  | [], acc, h => by simp [fortyPut, fortyGo]
  | [x], acc, h => by
    obtain ⟨e1, e2⟩ := n2_of (h x (by simp))
    have hx := h x (by simp)
    simp only [fortyPut, fortyGo]
    rw [e1, e2]
    simp; omega
  | x :: y :: t, acc, h => by
    have hx := h x (by simp)
    have hy := h y (by simp)
    obtain ⟨e1, e2⟩ := n3_of hx hy
    have ih := fortyGo_put t (acc ++ [x, y]) (fun z hz => h z (by simp [hz]))
    simp only [fortyPut, fortyGo]
    rw [e1, e2]
    have d1 : (256 * x + y) / 256 = x := by omega
    have d2 : (256 * x + y) % 256 = y := by omega
    rw [d1, d2, ih, if_neg (by simp), if_neg (by omega)]
    simp
/-- What was put is got again. -/
theorem fortyGet_put {l : List Int} (h : ∀ x ∈ l, 0 ≤ x ∧ x < 256) : fortyGet (fortyPut l) = (l, 0) := by
  unfold fortyGet
  rw [if_neg (by rw [fortyPut_len]; omega), fortyGo_put l [] h]
  simp
theorem fortyGo_ok : ∀ (s acc l : List Int), fortyGo s acc = (l, 0) → ∃ m, l = acc ++ m ∧ fortyPut m = s ∧ (∀ x ∈ m, 0 ≤ x ∧ x < 256)
  | [], acc, l, h => by simp [fortyGo] at h; exact ⟨[], by simp [h], rfl, by simp⟩
  | [_], acc, l, h => by simp [fortyGo] at h
  | [a, b], acc, l, h => by
    simp only [fortyGo] at h
    cases hb : bad2 a b with
    | true => rw [hb] at h; simp at h
    | false =>
      rw [hb] at h
      by_cases h2 : 255 < n2 a b
      · simp [h2] at h
      · simp [h2] at h
        unfold bad2 at hb
        simp only [Bool.or_eq_false_iff, decide_eq_false_iff_not] at hb
        obtain ⟨a1, a2, a3⟩ := dg_sg hb.1
        obtain ⟨b1, b2, b3⟩ := dg_sg hb.2
        refine ⟨[n2 a b], h.symm, ?_, ?_⟩
        · unfold n2
          simp only [fortyPut]
          rw [show (dg45 a + 45 * dg45 b) % 45 = dg45 a by omega, show (dg45 a + 45 * dg45 b) / 45 = dg45 b by omega, a1, b1]
        · intro x hx; simp at hx; subst hx; unfold n2 at *; omega
  | a :: b :: c :: t, acc, l, h => by
    simp only [fortyGo] at h
    cases hb : bad3 a b c with
    | true => rw [hb] at h; simp at h
    | false =>
      rw [hb] at h
      by_cases h2 : 65535 < n3 a b c
      · simp [h2] at h
      · simp only [Bool.false_eq_true, if_false, h2] at h
        obtain ⟨m, hm, hp, hq⟩ := fortyGo_ok t _ l h
        unfold bad3 at hb
        simp only [Bool.or_eq_false_iff, decide_eq_false_iff_not] at hb
        obtain ⟨a1, a2, a3⟩ := dg_sg hb.1.1
        obtain ⟨b1, b2, b3⟩ := dg_sg hb.1.2
        obtain ⟨c1, c2, c3⟩ := dg_sg hb.2
        have n0 : 0 ≤ n3 a b c := by unfold n3; omega
        refine ⟨n3 a b c / 256 :: n3 a b c % 256 :: m, by simp [hm], ?_, ?_⟩
        · simp only [fortyPut]
          have e : 256 * (n3 a b c / 256) + n3 a b c % 256 = n3 a b c := by omega
          rw [e, hp]
          unfold n3
          rw [show (dg45 a + 45 * dg45 b + 2025 * dg45 c) % 45 = dg45 a by omega, show (dg45 a + 45 * dg45 b + 2025 * dg45 c) / 45 % 45 = dg45 b by omega, show (dg45 a + 45 * dg45 b + 2025 * dg45 c) / 45 / 45 = dg45 c by omega, a1, b1, c1]
        · intro x hx
          simp only [List.mem_cons] at hx
          rcases hx with rfl | rfl | hx
          · omega
          · omega
          · exact hq x hx
/-- What was got is put as it was, and is of bytes. -/
theorem fortyPut_get {s l : List Int} (h : fortyGet s = (l, 0)) : fortyPut l = s ∧ ∀ x ∈ l, 0 ≤ x ∧ x < 256 := by
  unfold fortyGet at h
  split at h
  · simp at h
  · obtain ⟨m, hm, hp, hq⟩ := fortyGo_ok s [] l h
    simp at hm
    subst hm
    exact ⟨hp, hq⟩
theorem fortyGo_fail : ∀ (s acc : List Int), (fortyGo s acc).2 ≠ 0 → (fortyGo s acc).1 = []
  | [], acc, h => by simp [fortyGo] at h
  | [_], acc, h => by simp [fortyGo]
  | [a, b], acc, h => by
    simp only [fortyGo] at h ⊢
    split
    · rfl
    · split
      · rfl
      · rename_i h1 h2; simp [h1, h2] at h
  | a :: b :: c :: t, acc, h => by
    simp only [fortyGo] at h ⊢
    split
    · rfl
    · split
      · rfl
      · rename_i h1 h2; rw [if_neg h1, if_neg h2] at h; exact fortyGo_fail t _ h
theorem fortyGet_fail {s : List Int} (h : (fortyGet s).2 ≠ 0) : (fortyGet s).1 = [] := by
  unfold fortyGet at h ⊢
  split
  · rfl
  · rename_i h1; rw [if_neg h1] at h; exact fortyGo_fail s [] h
end Go.Proofs.Ytnbghgenaolfgaa

namespace Go.Proofs.Ytnbghgenaolfgaa
open Go.RowKit Go.Shelf
set_option linter.unusedVariables false
set_option maxRecDepth 100000
set_option linter.unusedSimpArgs false

theorem groups_any (A : Option Addr) (n c : Nat) (sz : Int) (w : World) : Calls Try.prog 103 #[.slice A n c, .int .i64 sz] w fun e w' => e = .returned (.func (.func 138) #[] #[.pointer (some ⟨w.heap.size, 0, none⟩), .pointer (some ⟨w.heap.size + 1, 0, none⟩)]) ∧ (w.alloc (.cells #[.slice A n c] 26)).alloc (.cells #[.int .i64 sz] 3) = w' := by
  have hmf : ∀ (fn : Fn) (first cap : Array Value) (w : World), (Instr.makeFunc fn first cap).run Try.prog w = .ok (.func fn first cap) w := fun _ _ _ _ => rfl
  go_enter Try.func103, Try.ntmps103
  go_wp2
  go_ret
  exact ⟨rfl, rfl⟩

def lenCell (W : World) (b : Nat) : Nat := match W.cell? ⟨b, 0, none⟩ with
  | some (.slice _ n _) => n
  | _ => 0
theorem lenCell_boxed {W : World} {b : Nat} {t : TypeId} {A : Option Addr} {n c : Nat} (h : Boxed W b t (.slice A n c)) : lenCell W b = n := by unfold lenCell; rw [h.cell]

theorem map_addF {s : Nat} (A : Option Addr) : A.map (fun x : Addr => x.add (s + 1)) = A.map (fun x : Addr => (⟨x.block, x.off + (s + 1), none⟩ : Addr)) := by cases A <;> simp [Addr.add]
attribute [local go_sem] Oper.semAt_some
set_option maxHeartbeats 8000000 in
theorem fiter2_any (n L Bl Bs N : Nat) (hn : 1 ≤ n) (A : Option Addr) (c : Nat) (l : List Int) (w0 : World) (hr : RdI w0 .u8 A l) (hlc : l.length ≤ c) (hc9 : c ≤ 9223372036854775807) (hN : N = (l.length + 1) / 2)
    (J : Nat → World → Prop) (Jx : World → Prop) (hJb : ∀ k W, J k W → Below w0.heap.size w0 W ∧ Boxed W Bs 3 (.int .i64 2)) (hJs : ∀ k W v, J k W → J k (W.setCell ⟨Bl, 0, none⟩ v))
    (hY : ∀ (k : Nat) (A' : Option Addr) (c' m : Nat) (q : List Int) (W : World), J k W → Boxed W Bl 26 (.slice A' q.length c') → RdI w0 .u8 A' q → l.drop (2 * k) = q → 0 < q.length → m = min 2 q.length →
      YieldAt Fence.wide (n - 1) Try.prog L #[.slice A' m c'] W fun e W' => (e = .returned (.bool true) ∧ J (k + 1) W' ∧ Boxed W' Bl 26 (.slice A' q.length c')) ∨ (e = .returned (.bool false) ∧ Jx W'))
    (W : World) (h0 : J 0 W) (hbl : Boxed W Bl 26 (.slice A l.length c)) :
    CallsIn Fence.wide n Try.prog 138 #[.func (.yield L) #[] #[], .pointer (some ⟨Bl, 0, none⟩), .pointer (some ⟨Bs, 0, none⟩)] W fun e W' => (∃ v, e = .returned v) ∧ (J N W' ∨ Jx W') := by
  have HN := Lib.hid hN
  clear hN
  refine callsIn_of_wp Try.func138 rfl trivial ?_ rfl
  simp only [Try.ntmps138, List.size_toArray, List.length_cons, List.length_nil, Nat.reduceAdd, Nat.reduceSub, Array.replicate_succ, Array.replicate_zero, List.push_toArray, List.append_toArray, List.nil_append, List.cons_append]
  gi_wp2
  gi_loopw [4] (fun _ wr => ∃ (k : Nat) (A' : Option Addr) (c' : Nat) (q : List Int), J k wr ∧ Boxed wr Bl 26 (.slice A' q.length c') ∧ q.length ≤ c' ∧ c' ≤ 9223372036854775807 ∧ RdI w0 .u8 A' q ∧ Hid (l.drop (2 * k) = q) ∧ 2 * k < l.length + 2) (fun _ wr => lenCell wr Bl)
  case atStart => exact ⟨0, A, c, l, h0, hbl, hlc, hc9, hr, Lib.hid (by simp), by omega⟩
  case round =>
    obtain ⟨k, A', c', q, hJ, hB, hcl, hcc, hra, hq, hkl⟩ := hrel
    have hb1 := hB.cell
    have hcw2 := (hJb k wr hJ).2.cell
    by_cases hp : 0 < q.length
    · have d1 : (0 : Int) < (q.length : Int) := by omega
      have hkn : 2 * k + q.length = l.length := by
        have h := congrArg List.length hq.out
        rw [List.length_drop] at h
        omega
      by_cases hs : 2 ≤ q.length
      · have m1 : min (2 : Int) (q.length : Int) = 2 := by omega
        have s1 : (2 : Int) ≤ (c' : Int) := by omega
        have s2 : (2 : Int) ≤ (q.length : Int) := by omega
        obtain ⟨fn, tmps, assign, body, hy, hR⟩ := hY k A' c' 2 q wr hJ hB hra hq.out hp (by omega)
        have HKN := Lib.hid hkn
        clear hkn
        by_cases hct : c' = 2
        · subst hct
          gi_wp2
          refine hR.mono ?_
          rintro e W3 (⟨rfl, hJ3, hb3⟩ | ⟨rfl, hx3⟩)
          · have hJ4 := hJs _ _ (.slice A' 0 0) hJ3
            have hfz := hb3.frozen
            have hc3 := hb3.cell
            have hcw3 := (hJb _ W3 hJ3).2.cell
            have hb4 := hb3.set (.slice A' 0 0)
            have HJ4 := Lib.hid hJ4
            have HB4 := Lib.hid hb4
            clear hJ4 hb4 hJ3
            gi_wp2
            refine ⟨⟨k + 1, A', 0, q.drop q.length, HJ4.out, by rw [List.length_drop, Nat.sub_self]; exact HB4.out, by rw [List.length_drop]; omega, by omega, (by rw [List.drop_length]; exact RdI.nil _ _ _), Lib.hid (by rw [List.drop_length]; exact List.drop_eq_nil_of_le (by have := HKN.out; omega)), by have := HKN.out; omega⟩, by rw [lenCell_boxed HB4.out, lenCell_boxed hB]; omega⟩
          · gi_wp2
            refine bodyPost_ret (results_none rfl _ _ _) rfl ?_
            exact ⟨⟨_, rfl⟩, .inr hx3⟩
        · gi_wp2
          refine hR.mono ?_
          rintro e W3 (⟨rfl, hJ3, hb3⟩ | ⟨rfl, hx3⟩)
          · have hJ4 := hJs _ _ (.slice (A'.map fun x => (⟨x.block, x.off + 2, none⟩ : Addr)) (q.length - 2) (c' - 2)) hJ3
            have hfz := hb3.frozen
            have hc3 := hb3.cell
            have hcw3 := (hJb _ W3 hJ3).2.cell
            have hb4 := hb3.set (.slice (A'.map fun x => (⟨x.block, x.off + 2, none⟩ : Addr)) (q.length - 2) (c' - 2))
            have HJ4 := Lib.hid hJ4
            have HB4 := Lib.hid hb4
            clear hJ4 hb4 hJ3
            gi_wp2
            refine ⟨⟨k + 1, (A'.map fun x => (⟨x.block, x.off + 2, none⟩ : Addr)), (c' - 2), q.drop 2, HJ4.out, by rw [List.length_drop]; exact HB4.out, by rw [List.length_drop]; omega, by omega, (by have h := hra.cut (c := c') 2 (by omega); rw [if_neg hct, map_addF] at h; exact h), Lib.hid (by have h := hq.out; rw [← h, List.drop_drop, show 2 * k + 2 = 2 * (k + 1) by omega]), by have := HKN.out; omega⟩, by rw [lenCell_boxed HB4.out, lenCell_boxed hB]; omega⟩
          · gi_wp2
            refine bodyPost_ret (results_none rfl _ _ _) rfl ?_
            exact ⟨⟨_, rfl⟩, .inr hx3⟩
      · have m1 : min (2 : Int) (q.length : Int) = (q.length : Int) := by omega
        have s1 : (q.length : Int) ≤ (c' : Int) := by omega
        obtain ⟨fn, tmps, assign, body, hy, hR⟩ := hY k A' c' q.length q wr hJ hB hra hq.out hp (by omega)
        have HKN := Lib.hid hkn
        clear hkn
        by_cases hct : c' = q.length
        · subst hct
          gi_wp2
          refine hR.mono ?_
          rintro e W3 (⟨rfl, hJ3, hb3⟩ | ⟨rfl, hx3⟩)
          · have hJ4 := hJs _ _ (.slice A' 0 0) hJ3
            have hfz := hb3.frozen
            have hc3 := hb3.cell
            have hcw3 := (hJb _ W3 hJ3).2.cell
            have hb4 := hb3.set (.slice A' 0 0)
            have HJ4 := Lib.hid hJ4
            have HB4 := Lib.hid hb4
            clear hJ4 hb4 hJ3
            gi_wp2
            refine ⟨⟨k + 1, A', 0, q.drop q.length, HJ4.out, by rw [List.length_drop, Nat.sub_self]; exact HB4.out, by rw [List.length_drop]; omega, by omega, (by rw [List.drop_length]; exact RdI.nil _ _ _), Lib.hid (by rw [List.drop_length]; exact List.drop_eq_nil_of_le (by have := HKN.out; omega)), by have := HKN.out; omega⟩, by rw [lenCell_boxed HB4.out, lenCell_boxed hB]; omega⟩
          · gi_wp2
            refine bodyPost_ret (results_none rfl _ _ _) rfl ?_
            exact ⟨⟨_, rfl⟩, .inr hx3⟩
        · gi_wp2
          refine hR.mono ?_
          rintro e W3 (⟨rfl, hJ3, hb3⟩ | ⟨rfl, hx3⟩)
          · have hJ4 := hJs _ _ (.slice (A'.map fun x => x.add q.length) 0 (c' - q.length)) hJ3
            have hfz := hb3.frozen
            have hc3 := hb3.cell
            have hcw3 := (hJb _ W3 hJ3).2.cell
            have hb4 := hb3.set (.slice (A'.map fun x => x.add q.length) 0 (c' - q.length))
            have HJ4 := Lib.hid hJ4
            have HB4 := Lib.hid hb4
            clear hJ4 hb4 hJ3
            gi_wp2
            refine ⟨⟨k + 1, (A'.map fun x => x.add q.length), (c' - q.length), q.drop q.length, HJ4.out, by rw [List.length_drop, Nat.sub_self]; exact HB4.out, by rw [List.length_drop]; omega, by omega, (by rw [List.drop_length]; exact RdI.nil _ _ _), Lib.hid (by rw [List.drop_length]; exact List.drop_eq_nil_of_le (by have := HKN.out; omega)), by have := HKN.out; omega⟩, by rw [lenCell_boxed HB4.out, lenCell_boxed hB]; omega⟩
          · gi_wp2
            refine bodyPost_ret (results_none rfl _ _ _) rfl ?_
            exact ⟨⟨_, rfl⟩, .inr hx3⟩
    · have hz : q = [] := List.eq_nil_of_length_eq_zero (by omega)
      have hkn : l.length ≤ 2 * k := by
        have h := congrArg List.length hq.out
        rw [List.length_drop, hz] at h
        simp at h
        omega
      have HE := Lib.hid (show k = N by have := HN.out; omega)
      have HJ := Lib.hid hJ
      have d1 : ¬ (0 : Int) < (q.length : Int) := by omega
      clear hJ hz hkn
      gi_wp2
      go_end0
      exact ⟨⟨_, rfl⟩, .inl (by have h := HJ.out; rw [HE.out] at h; exact h)⟩


set_option maxHeartbeats 8000000 in
theorem fiter3_any (n L Bl Bs N : Nat) (hn : 1 ≤ n) (A : Option Addr) (c : Nat) (l : List Int) (w0 : World) (hr : RdI w0 .u8 A l) (hlc : l.length ≤ c) (hc9 : c ≤ 9223372036854775807) (hN : N = (l.length + 2) / 3)
    (J : Nat → World → Prop) (Jx : World → Prop) (hJb : ∀ k W, J k W → Below w0.heap.size w0 W ∧ Boxed W Bs 3 (.int .i64 3)) (hJs : ∀ k W v, J k W → J k (W.setCell ⟨Bl, 0, none⟩ v))
    (hY : ∀ (k : Nat) (A' : Option Addr) (c' m : Nat) (q : List Int) (W : World), J k W → Boxed W Bl 26 (.slice A' q.length c') → RdI w0 .u8 A' q → l.drop (3 * k) = q → 0 < q.length → m = min 3 q.length →
      YieldAt Fence.wide (n - 1) Try.prog L #[.slice A' m c'] W fun e W' => (e = .returned (.bool true) ∧ J (k + 1) W' ∧ Boxed W' Bl 26 (.slice A' q.length c')) ∨ (e = .returned (.bool false) ∧ Jx W'))
    (W : World) (h0 : J 0 W) (hbl : Boxed W Bl 26 (.slice A l.length c)) :
    CallsIn Fence.wide n Try.prog 138 #[.func (.yield L) #[] #[], .pointer (some ⟨Bl, 0, none⟩), .pointer (some ⟨Bs, 0, none⟩)] W fun e W' => (∃ v, e = .returned v) ∧ (J N W' ∨ Jx W') := by
  have HN := Lib.hid hN
  clear hN
  refine callsIn_of_wp Try.func138 rfl trivial ?_ rfl
  simp only [Try.ntmps138, List.size_toArray, List.length_cons, List.length_nil, Nat.reduceAdd, Nat.reduceSub, Array.replicate_succ, Array.replicate_zero, List.push_toArray, List.append_toArray, List.nil_append, List.cons_append]
  gi_wp2
  gi_loopw [4] (fun _ wr => ∃ (k : Nat) (A' : Option Addr) (c' : Nat) (q : List Int), J k wr ∧ Boxed wr Bl 26 (.slice A' q.length c') ∧ q.length ≤ c' ∧ c' ≤ 9223372036854775807 ∧ RdI w0 .u8 A' q ∧ Hid (l.drop (3 * k) = q) ∧ 3 * k < l.length + 3) (fun _ wr => lenCell wr Bl)
  case atStart => exact ⟨0, A, c, l, h0, hbl, hlc, hc9, hr, Lib.hid (by simp), by omega⟩
  case round =>
    obtain ⟨k, A', c', q, hJ, hB, hcl, hcc, hra, hq, hkl⟩ := hrel
    have hb1 := hB.cell
    have hcw2 := (hJb k wr hJ).2.cell
    by_cases hp : 0 < q.length
    · have d1 : (0 : Int) < (q.length : Int) := by omega
      have hkn : 3 * k + q.length = l.length := by
        have h := congrArg List.length hq.out
        rw [List.length_drop] at h
        omega
      by_cases hs : 3 ≤ q.length
      · have m1 : min (3 : Int) (q.length : Int) = 3 := by omega
        have s1 : (3 : Int) ≤ (c' : Int) := by omega
        have s2 : (3 : Int) ≤ (q.length : Int) := by omega
        obtain ⟨fn, tmps, assign, body, hy, hR⟩ := hY k A' c' 3 q wr hJ hB hra hq.out hp (by omega)
        have HKN := Lib.hid hkn
        clear hkn
        by_cases hct : c' = 3
        · subst hct
          gi_wp2
          refine hR.mono ?_
          rintro e W3 (⟨rfl, hJ3, hb3⟩ | ⟨rfl, hx3⟩)
          · have hJ4 := hJs _ _ (.slice A' 0 0) hJ3
            have hfz := hb3.frozen
            have hc3 := hb3.cell
            have hcw3 := (hJb _ W3 hJ3).2.cell
            have hb4 := hb3.set (.slice A' 0 0)
            have HJ4 := Lib.hid hJ4
            have HB4 := Lib.hid hb4
            clear hJ4 hb4 hJ3
            gi_wp2
            refine ⟨⟨k + 1, A', 0, q.drop q.length, HJ4.out, by rw [List.length_drop, Nat.sub_self]; exact HB4.out, by rw [List.length_drop]; omega, by omega, (by rw [List.drop_length]; exact RdI.nil _ _ _), Lib.hid (by rw [List.drop_length]; exact List.drop_eq_nil_of_le (by have := HKN.out; omega)), by have := HKN.out; omega⟩, by rw [lenCell_boxed HB4.out, lenCell_boxed hB]; omega⟩
          · gi_wp2
            refine bodyPost_ret (results_none rfl _ _ _) rfl ?_
            exact ⟨⟨_, rfl⟩, .inr hx3⟩
        · gi_wp2
          refine hR.mono ?_
          rintro e W3 (⟨rfl, hJ3, hb3⟩ | ⟨rfl, hx3⟩)
          · have hJ4 := hJs _ _ (.slice (A'.map fun x => (⟨x.block, x.off + 3, none⟩ : Addr)) (q.length - 3) (c' - 3)) hJ3
            have hfz := hb3.frozen
            have hc3 := hb3.cell
            have hcw3 := (hJb _ W3 hJ3).2.cell
            have hb4 := hb3.set (.slice (A'.map fun x => (⟨x.block, x.off + 3, none⟩ : Addr)) (q.length - 3) (c' - 3))
            have HJ4 := Lib.hid hJ4
            have HB4 := Lib.hid hb4
            clear hJ4 hb4 hJ3
            gi_wp2
            refine ⟨⟨k + 1, (A'.map fun x => (⟨x.block, x.off + 3, none⟩ : Addr)), (c' - 3), q.drop 3, HJ4.out, by rw [List.length_drop]; exact HB4.out, by rw [List.length_drop]; omega, by omega, (by have h := hra.cut (c := c') 3 (by omega); rw [if_neg hct, map_addF] at h; exact h), Lib.hid (by have h := hq.out; rw [← h, List.drop_drop, show 3 * k + 3 = 3 * (k + 1) by omega]), by have := HKN.out; omega⟩, by rw [lenCell_boxed HB4.out, lenCell_boxed hB]; omega⟩
          · gi_wp2
            refine bodyPost_ret (results_none rfl _ _ _) rfl ?_
            exact ⟨⟨_, rfl⟩, .inr hx3⟩
      · have m1 : min (3 : Int) (q.length : Int) = (q.length : Int) := by omega
        have s1 : (q.length : Int) ≤ (c' : Int) := by omega
        obtain ⟨fn, tmps, assign, body, hy, hR⟩ := hY k A' c' q.length q wr hJ hB hra hq.out hp (by omega)
        have HKN := Lib.hid hkn
        clear hkn
        by_cases hct : c' = q.length
        · subst hct
          gi_wp2
          refine hR.mono ?_
          rintro e W3 (⟨rfl, hJ3, hb3⟩ | ⟨rfl, hx3⟩)
          · have hJ4 := hJs _ _ (.slice A' 0 0) hJ3
            have hfz := hb3.frozen
            have hc3 := hb3.cell
            have hcw3 := (hJb _ W3 hJ3).2.cell
            have hb4 := hb3.set (.slice A' 0 0)
            have HJ4 := Lib.hid hJ4
            have HB4 := Lib.hid hb4
            clear hJ4 hb4 hJ3
            gi_wp2
            refine ⟨⟨k + 1, A', 0, q.drop q.length, HJ4.out, by rw [List.length_drop, Nat.sub_self]; exact HB4.out, by rw [List.length_drop]; omega, by omega, (by rw [List.drop_length]; exact RdI.nil _ _ _), Lib.hid (by rw [List.drop_length]; exact List.drop_eq_nil_of_le (by have := HKN.out; omega)), by have := HKN.out; omega⟩, by rw [lenCell_boxed HB4.out, lenCell_boxed hB]; omega⟩
          · gi_wp2
            refine bodyPost_ret (results_none rfl _ _ _) rfl ?_
            exact ⟨⟨_, rfl⟩, .inr hx3⟩
        · gi_wp2
          refine hR.mono ?_
          rintro e W3 (⟨rfl, hJ3, hb3⟩ | ⟨rfl, hx3⟩)
          · have hJ4 := hJs _ _ (.slice (A'.map fun x => x.add q.length) 0 (c' - q.length)) hJ3
            have hfz := hb3.frozen
            have hc3 := hb3.cell
            have hcw3 := (hJb _ W3 hJ3).2.cell
            have hb4 := hb3.set (.slice (A'.map fun x => x.add q.length) 0 (c' - q.length))
            have HJ4 := Lib.hid hJ4
            have HB4 := Lib.hid hb4
            clear hJ4 hb4 hJ3
            gi_wp2
            refine ⟨⟨k + 1, (A'.map fun x => x.add q.length), (c' - q.length), q.drop q.length, HJ4.out, by rw [List.length_drop, Nat.sub_self]; exact HB4.out, by rw [List.length_drop]; omega, by omega, (by rw [List.drop_length]; exact RdI.nil _ _ _), Lib.hid (by rw [List.drop_length]; exact List.drop_eq_nil_of_le (by have := HKN.out; omega)), by have := HKN.out; omega⟩, by rw [lenCell_boxed HB4.out, lenCell_boxed hB]; omega⟩
          · gi_wp2
            refine bodyPost_ret (results_none rfl _ _ _) rfl ?_
            exact ⟨⟨_, rfl⟩, .inr hx3⟩
    · have hz : q = [] := List.eq_nil_of_length_eq_zero (by omega)
      have hkn : l.length ≤ 3 * k := by
        have h := congrArg List.length hq.out
        rw [List.length_drop, hz] at h
        simp at h
        omega
      have HE := Lib.hid (show k = N by have := HN.out; omega)
      have HJ := Lib.hid hJ
      have d1 : ¬ (0 : Int) < (q.length : Int) := by omega
      clear hJ hz hkn
      gi_wp2
      go_end0
      exact ⟨⟨_, rfl⟩, .inl (by have h := HJ.out; rw [HE.out] at h; exact h)⟩

end Go.Proofs.Ytnbghgenaolfgaa

namespace Go.Proofs.Ytnbghgenaolfgaa
open Go.RowKit
set_option linter.unusedVariables false
set_option maxRecDepth 100000

theorem signs_nat : ∀ y : Fin 45, ((([48, 49, 50, 51, 52, 53, 54, 55, 56, 57, 65, 66, 67, 68, 69, 70, 71, 72, 73, 74, 75, 76, 77, 78, 79, 80, 81, 82, 83, 84, 85, 86, 87, 88, 89, 90, 32, 36, 37, 42, 43, 45, 46, 47, 58] : List UInt8).getD y.val 0).toNat : Int) = sg45 (y.val : Int) := by decide
theorem signs_at (s : ByteArray) (L : List UInt8) (hs : s = ⟨L.toArray⟩) (i : Nat) (hi : i < s.size) : s[i] = L.getD i 0 := by
  subst hs
  have h2 : i < L.length := hi
  show L.toArray[i] = _
  simp [h2]
theorem idx_signs {z : Int} (h0 : 0 ≤ z) (h1 : z < 45) (w : World) : (Instr.index 9 (.string { data := #[48, 49, 50, 51, 52, 53, 54, 55, 56, 57, 65, 66, 67, 68, 69, 70, 71, 72, 73, 74, 75, 76, 77, 78, 79, 80, 81, 82, 83, 84, 85, 86, 87, 88, 89, 90, 32, 36, 37, 42, 43, 45, 46, 47, 58] }) (.int .i64 z)).run Try.prog w = .ok (.int .u8 (sg45 z)) w := by
  obtain ⟨y, rfl⟩ := Int.eq_ofNat_of_zero_le h0
  obtain ⟨s, hs⟩ : ∃ s : ByteArray, s = { data := #[48, 49, 50, 51, 52, 53, 54, 55, 56, 57, 65, 66, 67, 68, 69, 70, 71, 72, 73, 74, 75, 76, 77, 78, 79, 80, 81, 82, 83, 84, 85, 86, 87, 88, 89, 90, 32, 36, 37, 42, 43, 45, 46, 47, 58] } := ⟨_, rfl⟩
  have hz : s.size = 45 := by rw [hs]; rfl
  rw [← hs, run_index_string _ _ _ _ _ (by rfl), dif_pos ⟨by omega, by rw [hz]; omega⟩]
  have e := signs_nat ⟨y, by omega⟩
  have e2 := signs_at s _ hs y (by rw [hz]; omega)
  have e3 : ((y : Int)).toNat = y := by omega
  simp only [e3, e2]
  simp only at e
  rw [← e]
end Go.Proofs.Ytnbghgenaolfgaa

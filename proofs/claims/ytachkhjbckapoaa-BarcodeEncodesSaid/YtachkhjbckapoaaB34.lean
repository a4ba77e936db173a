/- Layer 19: the example that each law asks first comes to true. No condition. -/
import Derived.Test.YtachkhjbckapoaaB32
import Derived.Test.YtachkhjbckapoaaB33
import Derived.Lib.SlBytesConst
namespace Go.Proofs.Ytachkhjbckapoaa
open Go.RowKit
set_option linter.unusedVariables false
set_option maxRecDepth 100000
set_option linter.unusedSimpArgs false

theorem rd48 (w : World) : RdI (w.alloc (.cells #[.int .u8 48, .int .u8 48] 5 (2, 3))) .u8 (some ⟨w.heap.size, 0, none⟩) [48, 48] := by
  refine .inr ⟨_, rfl, by simp, fun j hj => ?_⟩
  have e : (⟨w.heap.size, 0, none⟩ : Addr).add j = ⟨w.heap.size, j, none⟩ := by
    unfold Addr.add; by_cases h : j = 0 <;> simp [h]
  have h := heap_alloc_new w (.cells #[.int .u8 48, .int .u8 48] 5 (2, 3))
  rw [e, cell_of_row _ _ j _ _ _ h]
  have hj : j < 2 := hj
  have : j = 0 ∨ j = 1 := by omega
  rcases this with rfl | rfl <;> rfl
theorem rd_one (W : World) (n : Nat) (x : Int) (h : W.heap.size = n) : RdI (W.alloc (.cells #[.int .u8 x] 5)) .u8 (some ⟨n, 0, none⟩) [x] := RdI.lit' (l := [x]) h
theorem rdk_nil (W : World) (A : Option Addr) : RdK W A [] := .inl rfl
theorem rdk_one' (W : World) (id fr til : Int) (B : Option Addr) (c : Nat) (sec : List Int) (hr : RdI W .u8 B sec) (hc : sec.length ≤ c) (hc9 : c ≤ 9223372036854775807) (hb : ∀ x ∈ sec, 0 ≤ x ∧ x < 256) :
    RdK (W.alloc (.cells #[.int .i64 id, .slice B sec.length c, .int .i64 fr, .int .i64 til] 49)) (some ⟨W.heap.size, 0, none⟩) [⟨id, sec, fr, til⟩] := by
  refine .inr ⟨_, rfl, by simp, fun j hj => ?_⟩
  obtain rfl : j = 0 := by simpa using hj
  have h := heap_alloc_new W (.cells #[.int .i64 id, .slice B sec.length c, .int .i64 fr, .int .i64 til] 49)
  exact ⟨B, c, cell_of_row _ _ 0 _ _ _ h, cell_of_row _ _ 1 _ _ _ h, cell_of_row _ _ 2 _ _ _ h, cell_of_row _ _ 3 _ _ _ h, hc, hc9, hr.below (bel1 _ _), hb⟩
theorem ring_lit (W : World) (k : Ky) (a b c : Int) (hk : k = ⟨5, [a, b, c], 0, 99⟩) (hb : ∀ x ∈ k.sec, 0 ≤ x ∧ x < 256) :
    RdK ((W.alloc (.cells #[.int .u8 a, .int .u8 b, .int .u8 c] 5)).alloc (.cells #[.int .i64 5, .slice (some ⟨W.heap.size, 0, none⟩) 3 3, .int .i64 0, .int .i64 99] 49)) (some ⟨W.heap.size + 1, 0, none⟩) [k] := by
  subst hk
  have h := rdk_one' (W.alloc (.cells #[.int .u8 a, .int .u8 b, .int .u8 c] 5)) 5 0 99 (some ⟨W.heap.size, 0, none⟩) 3 [a, b, c] (RdI.lit W .u8 [a, b, c] 5) (by simp) (by omega) hb
  rw [World.size_alloc] at h
  exact h
theorem results_tmprow {P : Program} {fn : Func} {t u : Tmp} {T ty : TypeId} (h : fn.results = #[.tmp u, .cell t T]) {d : TypeDesc} (hu : P.underlying T = some d) (hd : (match d with | .struct _ | .array _ _ => true | _ => false) = true)
    {tmps : Array Value} {g : Nat} {v : Value} {cs : Array Value} {fr : Nat × Nat} (hp : tmps.getD t undef = .pointer (some ⟨g, 0, none⟩)) (hv : tmps.getD u undef = v) {w : World} (hg : w.heap[g]? = some (.cells cs ty fr)) (hi : (P.info? T).map (·.size) = some cs.size) :
    (results fn tmps).run P w = .ok (.tuple #[v, .agg cs]) w := by
  have hl := run_loadVar_row (P := P) w g ty T cs fr d hg hu hd hi
  simp only [results, h, Array.mapM_eq_mapM_toList, List.mapM_cons, List.mapM_nil]
  simp [Sem.run_bind, hp, hv, asAddr, hl, Result.andThen]
theorem plain19_any (w : World) : Calls Try.prog 40 #[] w fun e w' => (∃ Ar, e = .returned (.tuple #[.slice Ar 1 1, .agg #[.int .i64 42, .int .i64 1, .int .i64 3, .int .i64 20, .int .i64 2, .int .i64 0, .int .i64 0, .int .i64 10, .int .i64 1, .int .i64 1, .int .i64 0, .int .i64 5, .int .i64 0, .int .i64 0, .int .i64 1]]) ∧ RdK w' Ar [k0K]) ∧ Below w.heap.size w w' := by
  go_enter Try.func40, Try.ntmps40
  go_wp2
  have h := ring_lit (w.alloc (.cells #[.int .i64 42, .int .i64 1, .int .i64 3, .int .i64 20, .int .i64 2, .int .i64 0, .int .i64 0, .int .i64 10, .int .i64 1, .int .i64 1, .int .i64 0, .int .i64 5, .int .i64 0, .int .i64 0, .int .i64 1] 28)) k0K 1 2 3 rfl (by decide)
  rw [World.size_alloc] at h
  have hF : (((w.alloc (.cells #[.int .i64 42, .int .i64 1, .int .i64 3, .int .i64 20, .int .i64 2, .int .i64 0, .int .i64 0, .int .i64 10, .int .i64 1, .int .i64 1, .int .i64 0, .int .i64 5, .int .i64 0, .int .i64 0, .int .i64 1] 28)).alloc (.cells #[.int .u8 1, .int .u8 2, .int .u8 3] 5)).alloc (.cells #[.int .i64 5, .slice (some ⟨w.heap.size + 1, 0, none⟩) 3 3, .int .i64 0, .int .i64 99] 49)).heap[w.heap.size]? = some (.cells #[.int .i64 42, .int .i64 1, .int .i64 3, .int .i64 20, .int .i64 2, .int .i64 0, .int .i64 0, .int .i64 10, .int .i64 1, .int .i64 1, .int .i64 0, .int .i64 5, .int .i64 0, .int .i64 0, .int .i64 1] 28 (0, 0)) :=
    (Below.heap_alloc _ _ _ (by simp; omega)).trans (heap_alloc2_old w _ _)
  exact bodyPost_ret (results_tmprow rfl Try.underlying28 rfl rfl rfl hF infoRd) rfl ⟨⟨_, rfl, h⟩, bA (bA (bel1 w _) _) _⟩
set_option maxHeartbeats 8000000 in
set_option maxRecDepth 100000 in
theorem coded19_any (w : World) : Calls Try.prog 11 #[] w fun e w' => e = .returned (.bool true) ∧ Below w.heap.size w w' := by
  obtain ⟨s0, q1, q2, q3, q4, q5, q6, q7, q8, q9⟩ := coded_facts
  have hD1 : ∀ (Ar As : Option Addr) (c cs : Nat) (W : World), RdK W Ar [k0K] → RdI W .u8 As s0 → 89 ≤ cs → cs ≤ 9223372036854775807 → Calls Try.prog 13 #[.slice Ar 1 c, .slice As 89 cs] W fun e w' => e = .returned (.tuple #[.agg #[.int .i64 42, .int .i64 1, .int .i64 3, .int .i64 20, .int .i64 2, .int .i64 0, .int .i64 0, .int .i64 10, .int .i64 1, .int .i64 1, .int .i64 0, .int .i64 5, .int .i64 0, .int .i64 0, .int .i64 1], .int .i64 0]) ∧ Below W.heap.size W w' := by
      intro Ar As c cs W h1 h2 h3 h4
      have h := bcDecode_any Ar c [k0K] As cs s0 W h1 (by simp) h2 (by first | omega | (simp; omega)) h4 q2 (by first | omega | (simp; done))
      rw [q4] at h
      rw [q1] at h
      exact h
  have hD2 : ∀ (Ar As : Option Addr) (c cs : Nat) (W : World), RdK W Ar [k1K] → RdI W .u8 As s0 → 89 ≤ cs → cs ≤ 9223372036854775807 → Calls Try.prog 13 #[.slice Ar 1 c, .slice As 89 cs] W fun e w' => e = .returned (.tuple #[.agg #[.int .i64 0, .int .i64 0, .int .i64 0, .int .i64 0, .int .i64 0, .int .i64 0, .int .i64 0, .int .i64 0, .int .i64 0, .int .i64 0, .int .i64 0, .int .i64 0, .int .i64 0, .int .i64 0, .int .i64 0], .int .i64 11]) ∧ Below W.heap.size W w' := by
      intro Ar As c cs W h1 h2 h3 h4
      have h := bcDecode_any Ar c [k1K] As cs s0 W h1 (by simp) h2 (by first | omega | (simp; omega)) h4 q2 (by first | omega | (simp; done))
      rw [q6] at h
      rw [q1] at h
      exact h
  have hD3 : ∀ (Ar As : Option Addr) (c cs : Nat) (W : World), RdK W Ar [] → RdI W .u8 As s0 → 89 ≤ cs → cs ≤ 9223372036854775807 → Calls Try.prog 13 #[.slice Ar 0 c, .slice As 89 cs] W fun e w' => e = .returned (.tuple #[.agg #[.int .i64 0, .int .i64 0, .int .i64 0, .int .i64 0, .int .i64 0, .int .i64 0, .int .i64 0, .int .i64 0, .int .i64 0, .int .i64 0, .int .i64 0, .int .i64 0, .int .i64 0, .int .i64 0, .int .i64 0], .int .i64 10]) ∧ Below W.heap.size W w' := by
      intro Ar As c cs W h1 h2 h3 h4
      have h := bcDecode_any Ar c [] As cs s0 W h1 (by simp) h2 (by first | omega | (simp; omega)) h4 q2 (by first | omega | (simp; done))
      rw [q7] at h
      rw [q1] at h
      exact h
  have hD4 : ∀ (Ar As : Option Addr) (c cs : Nat) (W : World), RdK W Ar [k0K] → RdI W .u8 As [48, 48] → 2 ≤ cs → cs ≤ 9223372036854775807 → Calls Try.prog 13 #[.slice Ar 1 c, .slice As 2 cs] W fun e w' => e = .returned (.tuple #[.agg #[.int .i64 0, .int .i64 0, .int .i64 0, .int .i64 0, .int .i64 0, .int .i64 0, .int .i64 0, .int .i64 0, .int .i64 0, .int .i64 0, .int .i64 0, .int .i64 0, .int .i64 0, .int .i64 0, .int .i64 0], .int .i64 14]) ∧ Below W.heap.size W w' := by
      intro Ar As c cs W h1 h2 h3 h4
      have h := bcDecode_any Ar c [k0K] As cs [48, 48] W h1 (by simp) h2 (by first | omega | (simp; omega)) h4 (by decide) (by first | omega | (simp; done))
      rw [q9] at h
      exact h
  have hE1 : ∀ (Ar : Option Addr) (c : Nat) (W : World), RdK W Ar [k0K] → Calls Try.prog 9 #[.slice Ar 1 c, .agg #[.int .i64 42, .int .i64 1, .int .i64 3, .int .i64 20, .int .i64 2, .int .i64 0, .int .i64 0, .int .i64 10, .int .i64 1, .int .i64 1, .int .i64 0, .int .i64 5, .int .i64 0, .int .i64 0, .int .i64 1]] W (ByteRetE (s0, 0) W) := by
      intro Ar c W h1
      have h := bcEncode_any Ar c [k0K] 42 1 3 20 2 0 0 10 1 1 0 5 0 0 1 W h1 (by simp)
      rw [show [(42 : Int), (1 : Int), (3 : Int), (20 : Int), (2 : Int), (0 : Int), (0 : Int), (10 : Int), (1 : Int), (1 : Int), (0 : Int), (5 : Int), (0 : Int), (0 : Int), (1 : Int)] = r0L from rfl, q3] at h
      exact h
  have hE2 : ∀ (W : World), Calls Try.prog 9 #[.slice none 0 0, .agg #[.int .i64 42, .int .i64 1, .int .i64 3, .int .i64 20, .int .i64 2, .int .i64 0, .int .i64 0, .int .i64 10, .int .i64 1, .int .i64 1, .int .i64 0, .int .i64 5, .int .i64 0, .int .i64 0, .int .i64 1]] W (ByteRetE ([], 10) W) := by
      intro W
      have h := bcEncode_any none 0 [] 42 1 3 20 2 0 0 10 1 1 0 5 0 0 1 W (.inl rfl) (by simp)
      rw [show [(42 : Int), (1 : Int), (3 : Int), (20 : Int), (2 : Int), (0 : Int), (0 : Int), (10 : Int), (1 : Int), (1 : Int), (0 : Int), (5 : Int), (0 : Int), (0 : Int), (1 : Int)] = r0L from rfl, q8] at h
      exact h
  have hV : ∀ (As : Option Addr) (cs : Nat) (W : World), RdI W .u8 As s0 → 89 ≤ cs → cs ≤ 9223372036854775807 → Calls Try.prog 15 #[.slice As 89 cs] W fun e w' => e = .returned (.tuple #[.int .i64 1, .int .i64 0]) ∧ Below W.heap.size W w' := by
      intro As cs W h1 h2 h3
      have h := bcVersion_any As cs s0 W h1 (by omega) h3 q2 (by omega)
      rw [q5, q1] at h
      exact h
  have hT1 : ∀ (g : Nat) (W : World), RdI W .u8 (some ⟨g, 0, none⟩) [1] → Calls Try.prog 17 #[.slice (some ⟨g, 0, none⟩) 1 1, .slice none 0 0] W fun e w' => e = .returned (.agg #[.int .u8 223, .int .u8 152, .int .u8 161, .int .u8 58, .int .u8 32, .int .u8 149, .int .u8 149, .int .u8 200, .int .u8 55, .int .u8 133, .int .u8 66, .int .u8 21, .int .u8 212, .int .u8 95, .int .u8 169, .int .u8 195, .int .u8 153, .int .u8 21, .int .u8 252, .int .u8 61, .int .u8 83, .int .u8 174, .int .u8 120, .int .u8 30, .int .u8 191, .int .u8 79, .int .u8 242, .int .u8 216, .int .u8 216, .int .u8 152, .int .u8 175, .int .u8 73]) ∧ Below W.heap.size W w' := by
      intro g W h1
      have h := bcTag_any (some ⟨g, 0, none⟩) none 1 0 [1] [] W h1 (RdI.nil _ _ _) (by simp) (by simp) (by decide) (by simp)
      rw [tag_1] at h
      exact h
  have hT2 : ∀ (g : Nat) (W : World), RdI W .u8 (some ⟨g, 0, none⟩) [2] → Calls Try.prog 17 #[.slice (some ⟨g, 0, none⟩) 1 1, .slice none 0 0] W fun e w' => e = .returned (.agg #[.int .u8 156, .int .u8 58, .int .u8 19, .int .u8 156, .int .u8 88, .int .u8 59, .int .u8 163, .int .u8 97, .int .u8 51, .int .u8 42, .int .u8 38, .int .u8 158, .int .u8 134, .int .u8 6, .int .u8 163, .int .u8 120, .int .u8 142, .int .u8 45, .int .u8 165, .int .u8 97, .int .u8 203, .int .u8 110, .int .u8 215, .int .u8 78, .int .u8 160, .int .u8 123, .int .u8 198, .int .u8 17, .int .u8 225, .int .u8 29, .int .u8 192, .int .u8 136]) ∧ Below W.heap.size W w' := by
      intro g W h1
      have h := bcTag_any (some ⟨g, 0, none⟩) none 1 0 [2] [] W h1 (RdI.nil _ _ _) (by simp) (by simp) (by decide) (by simp)
      rw [tag_2] at h
      exact h
  have hCv : ∀ W : World, (convert 30 30 (.slice (some ⟨W.heap.size, 0, none⟩) 2 2)).run Try.prog (W.alloc (.cells #[.int .u8 48, .int .u8 48] 5)) = .ok (.slice (some ⟨W.heap.size, 0, none⟩) 2 2) (W.alloc (.cells #[.int .u8 48, .int .u8 48] 5 (2, 3))) := fun W => Go.Lib.run_convert_bytes_const W 30 5 #[.int .u8 48, .int .u8 48] 2 2 Try.underlying30 Try.underlying5
  have hEq : ∀ W : World, Sem.run Try.prog (Op.equalIn 10000 42 (.agg #[.int .u8 223, .int .u8 152, .int .u8 161, .int .u8 58, .int .u8 32, .int .u8 149, .int .u8 149, .int .u8 200, .int .u8 55, .int .u8 133, .int .u8 66, .int .u8 21, .int .u8 212, .int .u8 95, .int .u8 169, .int .u8 195, .int .u8 153, .int .u8 21, .int .u8 252, .int .u8 61, .int .u8 83, .int .u8 174, .int .u8 120, .int .u8 30, .int .u8 191, .int .u8 79, .int .u8 242, .int .u8 216, .int .u8 216, .int .u8 152, .int .u8 175, .int .u8 73]) (.agg #[.int .u8 156, .int .u8 58, .int .u8 19, .int .u8 156, .int .u8 88, .int .u8 59, .int .u8 163, .int .u8 97, .int .u8 51, .int .u8 42, .int .u8 38, .int .u8 158, .int .u8 134, .int .u8 6, .int .u8 163, .int .u8 120, .int .u8 142, .int .u8 45, .int .u8 165, .int .u8 97, .int .u8 203, .int .u8 110, .int .u8 215, .int .u8 78, .int .u8 160, .int .u8 123, .int .u8 198, .int .u8 17, .int .u8 225, .int .u8 29, .int .u8 192, .int .u8 136])) W = .ok false W := fun W => by kernel_rfl
  clear q2 q3 q4 q5 q6 q7 q8 q9
  go_enter Try.func11, Try.ntmps11
  go_wp2_with (first | (go_at_call 40; (with_reducible refine (plain19_any _).mono ?_); rintro e w1 ⟨⟨Ar, rfl, hk1⟩, hb1⟩; have hA1 := bel1 w1 (.cells #[.int .i64 42, .int .i64 1, .int .i64 3, .int .i64 20, .int .i64 2, .int .i64 0, .int .i64 0, .int .i64 10, .int .i64 1, .int .i64 1, .int .i64 0, .int .i64 5, .int .i64 0, .int .i64 0, .int .i64 1] 28); have P1 : (w1.alloc (.cells #[.int .i64 42, .int .i64 1, .int .i64 3, .int .i64 20, .int .i64 2, .int .i64 0, .int .i64 0, .int .i64 10, .int .i64 1, .int .i64 1, .int .i64 0, .int .i64 5, .int .i64 0, .int .i64 0, .int .i64 1] 28)).heap[w1.heap.size]? = some (.cells #[.int .i64 42, .int .i64 1, .int .i64 3, .int .i64 20, .int .i64 2, .int .i64 0, .int .i64 0, .int .i64 10, .int .i64 1, .int .i64 1, .int .i64 0, .int .i64 5, .int .i64 0, .int .i64 0, .int .i64 1] 28 (0, 0)) := heap_alloc_new w1 _; have K1 := hk1.below hA1 (Nat.le_refl _); have B1 := bT hb1 hA1; clear hA1) | (go_at_call 9; (with_reducible refine (hE1 Ar 1 _ K1).mono ?_); rintro e w2 ⟨v, rfl, ho, hb2⟩; rw [q1] at ho; obtain ⟨As, cs, rfl, u1, u2⟩ := own_slice ho; unfold maxLen at u2; have S2 : RdI w2 .u8 As s0 := (by rw [← q1] at ho; exact RdI.of_own ho); have K2 := K1.below hb2 (Nat.le_refl _); have P2 := (hb2.block w1.heap.size (by simp)).trans P1; have B2 := bT B1 hb2; clear ho hb2) | (go_at_call 13; (with_reducible refine (hD1 Ar As 1 cs _ K2 S2 u1 (by omega)).mono ?_); rintro e w3 ⟨rfl, hb3⟩; have hA3 := bel1 w3 (.cells #[.int .i64 42, .int .i64 1, .int .i64 3, .int .i64 20, .int .i64 2, .int .i64 0, .int .i64 0, .int .i64 10, .int .i64 1, .int .i64 1, .int .i64 0, .int .i64 5, .int .i64 0, .int .i64 0, .int .i64 1] 28); have X3 : (w3.alloc (.cells #[.int .i64 42, .int .i64 1, .int .i64 3, .int .i64 20, .int .i64 2, .int .i64 0, .int .i64 0, .int .i64 10, .int .i64 1, .int .i64 1, .int .i64 0, .int .i64 5, .int .i64 0, .int .i64 0, .int .i64 1] 28)).heap[w3.heap.size]? = some (.cells #[.int .i64 42, .int .i64 1, .int .i64 3, .int .i64 20, .int .i64 2, .int .i64 0, .int .i64 0, .int .i64 10, .int .i64 1, .int .i64 1, .int .i64 0, .int .i64 5, .int .i64 0, .int .i64 0, .int .i64 1] 28 (0, 0)) := heap_alloc_new w3 _; have K3 := (K2.below hb3 (Nat.le_refl _)).below hA3 (Nat.le_refl _); have S3 := (S2.below hb3).below hA3; have P3 := (hA3.block w1.heap.size (Nat.lt_of_lt_of_le (Array.getElem?_eq_some_iff.1 P2).1 hb3.size)).trans ((hb3.block w1.heap.size (Array.getElem?_eq_some_iff.1 P2).1).trans P2); have B3 := bT (bT B2 hb3) hA3; clear hb3 hA3) | (go_at_call 15; (with_reducible refine (hV As cs _ S3 u1 (by omega)).mono ?_); rintro e w4 ⟨rfl, hb4⟩; have K4 := K3.below hb4 (Nat.le_refl _); have S4 := S3.below hb4; have P4 := (hb4.block w1.heap.size (Array.getElem?_eq_some_iff.1 P3).1).trans P3; have X4 := (hb4.block w3.heap.size (Array.getElem?_eq_some_iff.1 X3).1).trans X3; have B4 := bT B3 hb4; have hR4 := ring_lit w4 k1K 1 2 4 rfl (by decide); clear hb4) | (go_at_call 13; (with_reducible refine (hD2 _ As 1 cs _ hR4 ((S4.below (bel1 w4 _)).below (bel1 _ _)) u1 (by omega)).mono ?_); rintro e w5 ⟨rfl, hb5⟩; have hC := bT (bA (bel1 w4 (.cells #[.int .u8 1, .int .u8 2, .int .u8 4] 5)) _) hb5; have hC5 := bA hC (.cells #[.int .i64 0, .int .i64 0, .int .i64 0, .int .i64 0, .int .i64 0, .int .i64 0, .int .i64 0, .int .i64 0, .int .i64 0, .int .i64 0, .int .i64 0, .int .i64 0, .int .i64 0, .int .i64 0, .int .i64 0] 28); have K5 := K4.below hC5 (Nat.le_refl _); have S5 := S4.below hC5; have P5 := (hC5.block w1.heap.size (Array.getElem?_eq_some_iff.1 P4).1).trans P4; have X5 := (hC5.block w3.heap.size (Array.getElem?_eq_some_iff.1 X4).1).trans X4; have B5 := bT B4 hC5; clear hb5 hC hC5) | (go_at_call 13; (with_reducible refine (hD3 none As 0 cs _ (rdk_nil _ _) S5 u1 (by omega)).mono ?_); rintro e w6 ⟨rfl, hb6⟩; have hC6 := bA hb6 (.cells #[.int .i64 0, .int .i64 0, .int .i64 0, .int .i64 0, .int .i64 0, .int .i64 0, .int .i64 0, .int .i64 0, .int .i64 0, .int .i64 0, .int .i64 0, .int .i64 0, .int .i64 0, .int .i64 0, .int .i64 0] 28); have K6 := K5.below hC6 (Nat.le_refl _); have P6 := (hC6.block w1.heap.size (Array.getElem?_eq_some_iff.1 P5).1).trans P5; have X6 := (hC6.block w3.heap.size (Array.getElem?_eq_some_iff.1 X5).1).trans X5; have B6 := bT B5 hC6; clear hb6 hC6) | (refine wpList_load_row rfl 28 (.tmp 2) rfl w1.heap.size rfl 28 #[.int .i64 42, .int .i64 1, .int .i64 3, .int .i64 20, .int .i64 2, .int .i64 0, .int .i64 0, .int .i64 10, .int .i64 1, .int .i64 1, .int .i64 0, .int .i64 5, .int .i64 0, .int .i64 0, .int .i64 1] (0, 0) _ P6 Try.underlying28 rfl ?_ ?_; (focus (exact infoRd))) | (go_at_call 9; (with_reducible refine (hE2 _).mono ?_); rintro e w7 ⟨v7, rfl, _, hb7⟩; have K7 := K6.below hb7 (Nat.le_refl _); have P7 := (hb7.block w1.heap.size (Array.getElem?_eq_some_iff.1 P6).1).trans P6; have X7 := (hb7.block w3.heap.size (Array.getElem?_eq_some_iff.1 X6).1).trans X6; have B7 := bT B6 hb7; clear hb7) | (go_at_call 13; (with_reducible refine (hD4 Ar _ 1 2 _ (K7.below (bel1 w7 _) (Nat.le_refl _)) (rd48 w7) (by omega) (by omega)).mono ?_); rintro e w8 ⟨rfl, hb8⟩; have hC8 := bA (bT (bel1 w7 _) hb8) (.cells #[.int .i64 0, .int .i64 0, .int .i64 0, .int .i64 0, .int .i64 0, .int .i64 0, .int .i64 0, .int .i64 0, .int .i64 0, .int .i64 0, .int .i64 0, .int .i64 0, .int .i64 0, .int .i64 0, .int .i64 0] 28); have P8 := (hC8.block w1.heap.size (Array.getElem?_eq_some_iff.1 P7).1).trans P7; have X8 := (hC8.block w3.heap.size (Array.getElem?_eq_some_iff.1 X7).1).trans X7; have B8 := bT B7 hC8; have cx0 := cell_of_row _ w3.heap.size 0 _ _ _ X8; have cp0 := cell_of_row _ w1.heap.size 0 _ _ _ P8; have cx1 := cell_of_row _ w3.heap.size 1 _ _ _ X8; have cp1 := cell_of_row _ w1.heap.size 1 _ _ _ P8; have cx2 := cell_of_row _ w3.heap.size 2 _ _ _ X8; have cp2 := cell_of_row _ w1.heap.size 2 _ _ _ P8; have cx3 := cell_of_row _ w3.heap.size 3 _ _ _ X8; have cp3 := cell_of_row _ w1.heap.size 3 _ _ _ P8; have cx4 := cell_of_row _ w3.heap.size 4 _ _ _ X8; have cp4 := cell_of_row _ w1.heap.size 4 _ _ _ P8; have cx5 := cell_of_row _ w3.heap.size 5 _ _ _ X8; have cp5 := cell_of_row _ w1.heap.size 5 _ _ _ P8; have cx6 := cell_of_row _ w3.heap.size 6 _ _ _ X8; have cp6 := cell_of_row _ w1.heap.size 6 _ _ _ P8; have cx7 := cell_of_row _ w3.heap.size 7 _ _ _ X8; have cp7 := cell_of_row _ w1.heap.size 7 _ _ _ P8; have cx8 := cell_of_row _ w3.heap.size 8 _ _ _ X8; have cp8 := cell_of_row _ w1.heap.size 8 _ _ _ P8; have cx9 := cell_of_row _ w3.heap.size 9 _ _ _ X8; have cp9 := cell_of_row _ w1.heap.size 9 _ _ _ P8; have cx10 := cell_of_row _ w3.heap.size 10 _ _ _ X8; have cp10 := cell_of_row _ w1.heap.size 10 _ _ _ P8; have cx11 := cell_of_row _ w3.heap.size 11 _ _ _ X8; have cp11 := cell_of_row _ w1.heap.size 11 _ _ _ P8; have cx12 := cell_of_row _ w3.heap.size 12 _ _ _ X8; have cp12 := cell_of_row _ w1.heap.size 12 _ _ _ P8; have cx13 := cell_of_row _ w3.heap.size 13 _ _ _ X8; have cp13 := cell_of_row _ w1.heap.size 13 _ _ _ P8; have cx14 := cell_of_row _ w3.heap.size 14 _ _ _ X8; have cp14 := cell_of_row _ w1.heap.size 14 _ _ _ P8; clear hb8 hC8) | (refine wpList_load_row rfl 28 (.tmp 5) rfl w3.heap.size rfl 28 #[.int .i64 42, .int .i64 1, .int .i64 3, .int .i64 20, .int .i64 2, .int .i64 0, .int .i64 0, .int .i64 10, .int .i64 1, .int .i64 1, .int .i64 0, .int .i64 5, .int .i64 0, .int .i64 0, .int .i64 1] (0, 0) _ X8 Try.underlying28 rfl ?_ ?_; (focus (exact infoRd))) | (refine wpList_load_row rfl 28 (.tmp 2) rfl w1.heap.size rfl 28 #[.int .i64 42, .int .i64 1, .int .i64 3, .int .i64 20, .int .i64 2, .int .i64 0, .int .i64 0, .int .i64 10, .int .i64 1, .int .i64 1, .int .i64 0, .int .i64 5, .int .i64 0, .int .i64 0, .int .i64 1] (0, 0) _ P8 Try.underlying28 rfl ?_ ?_; (focus (exact infoRd))) | (go_at_call 17; (with_reducible refine (hT1 _ _ (rd_one _ _ 1 (by simp))).mono ?_); rintro e w9 ⟨rfl, hb9⟩; have B9 := bT (bA B8 _) hb9; clear hb9) | (go_at_call 17; (with_reducible refine (hT2 _ _ (rd_one _ _ 2 (by simp))).mono ?_); rintro e w10 ⟨rfl, hb10⟩; have B10 := bT (bA B9 _) hb10; clear hb10))
  go_ret
  exact ⟨rfl, B10⟩
end Go.Proofs.Ytachkhjbckapoaa

/- Layer 21: the example that each law asks first, plain. Layer 21: the example that each law asks first, walked. A leaf of an argument that is a slice of numbers: it reads as a list. An argument that is a slice of keys: it reads as a list of keys. An argument that is a slice of bytes: it reads as a list that memory has room for. No condition. -/
import Derived.Test.YtnbghgenaolfgaaGreatZ28
import Derived.Test.YtnbghgenaolfgaaGreatZ04
import Derived.Test.YtnbghgenaolfgaaGreatZ27
import Derived.Test.YtnbghgenaolfgaaGreatZ12
import Derived.Test.YtnbghgenaolfgaaGreatZ00
import Derived.Test.YtnbghgenaolfgaaGreatZ01
import Derived.ChangeArms
import Derived.DataReads
import Derived.SizedLaws
namespace Go.Proofs.YtnbghgenaolfgaaGreat
open Go.RowKit
set_option linter.unusedVariables false
set_option maxRecDepth 100000
set_option linter.unusedSimpArgs false

def k5x : Ky := ⟨5, [1, 2, 3], 0, 99⟩
def k6x : Ky := ⟨6, [9], 0, 99⟩
def ksX : List Ky := [k5x, k6x]
def rX : List Int := [42, 1, 3, 20, 2, 1, 0, 10, 1, 1, 0, 5, 1, 0, 0]
theorem cx_ring : ringB ksX = true := by decide
theorem cx_enc : (encS ksX rX).2 = 0 := by kernel_rfl
theorem cx_bar : (encE ksX [42, 1, 3, 20, 2, 1, 0, 10, 1, 1, 0, 6, 0, 0, 2]).2 = 0 := by kernel_rfl
theorem cx_fit : (encE ksX [42, 1, 3, 20, 2, 1, 0, 10, 1, 1, 0, 6, 0, 0, 1]).2 = 18 := by kernel_rfl
theorem cx_arg : (encS ksX [42, 1, 3, 20, 2, 1, 0, 10, 1, 1, 0, 5, 2, 0, 0]).2 = 1 := by kernel_rfl
theorem cx_key : (encS ksX [42, 1, 3, 20, 2, 1, 0, 10, 1, 1, 0, 7, 1, 0, 0]).2 = 10 := by kernel_rfl
theorem cx_nil : (decS ksX []).2 = 14 := by kernel_rfl
theorem cross_facts : ∃ b s : List Int, (∀ x ∈ b, 0 ≤ x ∧ x < 256) ∧ b.length ≤ 50 ∧ (∀ x ∈ s, 0 ≤ x ∧ x < 256) ∧ s.length ≤ 200000 ∧ encS ksX rX = (b, 0) ∧ toB ksX b 2 6 = (s, 1, 0, 0) ∧ toS ksX s 1 0 5 = (b, 0) ∧
    toB ksX b 1 6 = ([], 0, 0, 18) ∧ toS ksX s 2 0 5 = ([], 1) ∧ toS ksX s 1 0 7 = ([], 10) ∧ toB ksX [] 2 6 = ([], 0, 0, 14) ∧ decE ksX s = ([42, 1, 3, 20, 2, 1, 0, 10, 1, 1, 0, 6, 0, 0, 2], 0) := by
  obtain ⟨b, hb⟩ : ∃ b, encS ksX rX = (b, 0) := ⟨_, Prod.ext rfl cx_enc⟩
  obtain ⟨s, hs⟩ : ∃ s, encE ksX [42, 1, 3, 20, 2, 1, 0, 10, 1, 1, 0, 6, 0, 0, 2] = (s, 0) := ⟨_, Prod.ext rfl cx_bar⟩
  obtain ⟨d1, _, d3, d4⟩ := st_back (l := rX) rfl hb
  obtain ⟨e1, e2⟩ := enc_smallx ksX [42, 1, 3, 20, 2, 1, 0, 10, 1, 1, 0, 6, 0, 0, 2] rfl
  obtain ⟨f1, _⟩ := enc_dec (l := [42, 1, 3, 20, 2, 1, 0, 10, 1, 1, 0, 6, 0, 0, 2]) rfl hs
  rw [hs] at e1 e2
  refine ⟨b, s, d3, d4, e2, e1, hb, ?_, ?_, ?_, ?_, ?_, ?_, f1⟩
  · rw [toB_ok d1, hs]; rfl
  · rw [toS_ok f1, show ([42, 1, 3, 20, 2, 1, 0, 10, 1, 1, 0, 5, 1, 0, 0] : List Int) = rX from rfl, hb]; rfl
  · rw [toB_ok d1, cx_fit]; rfl
  · rw [toS_ok f1, cx_arg]; rfl
  · rw [toS_ok f1, cx_key]; rfl
  · rw [toB_bad (by rw [cx_nil]; decide), cx_nil]
end Go.Proofs.YtnbghgenaolfgaaGreat

namespace Go.Proofs.YtnbghgenaolfgaaGreat
open Go.RowKit
set_option linter.unusedVariables false
set_option maxRecDepth 100000
set_option linter.unusedSimpArgs false

theorem rdk_two (W : World) (g : Nat) (i1 f1 t1 i2 f2 t2 : Int) (B1 B2 : Option Addr) (n1 n2 c1 c2 : Nat) (s1 s2 : List Int) (hg : W.heap[g]? = some (.cells #[.int .i64 i1, .slice B1 n1 c1, .int .i64 f1, .int .i64 t1, .int .i64 i2, .slice B2 n2 c2, .int .i64 f2, .int .i64 t2] 56 (0, 0)))
    (hn1 : s1.length = n1) (hn2 : s2.length = n2) (h1 : RdI W .u8 B1 s1) (h2 : RdI W .u8 B2 s2) (hc1 : n1 ≤ c1) (hc2 : n2 ≤ c2) (hm1 : c1 ≤ 9223372036854775807) (hm2 : c2 ≤ 9223372036854775807) (hb1 : ∀ x ∈ s1, 0 ≤ x ∧ x < 256) (hb2 : ∀ x ∈ s2, 0 ≤ x ∧ x < 256) :
    RdK W (some ⟨g, 0, none⟩) [⟨i1, s1, f1, t1⟩, ⟨i2, s2, f2, t2⟩] := by
  subst hn1 hn2
  refine .inr ⟨_, rfl, (Array.getElem?_eq_some_iff.1 hg).1, fun j hj => ?_⟩
  rcases (show j = 0 ∨ j = 1 by simp at hj; omega) with rfl | rfl
  · exact ⟨B1, c1, cell_of_row _ _ 0 _ _ _ hg, cell_of_row _ _ 1 _ _ _ hg, cell_of_row _ _ 2 _ _ _ hg, cell_of_row _ _ 3 _ _ _ hg, hc1, hm1, h1, hb1⟩
  · exact ⟨B2, c2, cell_of_row _ _ 4 _ _ _ hg, cell_of_row _ _ 5 _ _ _ hg, cell_of_row _ _ 6 _ _ _ hg, cell_of_row _ _ 7 _ _ _ hg, hc2, hm2, h2, hb2⟩
theorem ac_tmprow {P : Program} {fn : Func} {t u : Tmp} {T ty : TypeId} (h : fn.results = #[.tmp u, .cell t T]) {d : TypeDesc} (hu : P.underlying T = some d) (hd : (match d with | .struct _ | .array _ _ => true | _ => false) = true)
    {tmps : Array Value} {g : Nat} {v : Value} {cs : Array Value} {fr : Nat × Nat} (hp : tmps.getD t undef = .pointer (some ⟨g, 0, none⟩)) (hv : tmps.getD u undef = v) {w : World} (hg : w.heap[g]? = some (.cells cs ty fr)) (hi : (P.info? T).map (·.size) = some cs.size) :
    (results fn tmps).run P w = .ok (.tuple #[v, .agg cs]) w := by
  have hl := run_loadVar_row (P := P) w g ty T cs fr d hg hu hd hi
  simp only [results, h, Array.mapM_eq_mapM_toList, List.mapM_cons, List.mapM_nil]
  simp [Sem.run_bind, hp, hv, asAddr, hl, Result.andThen]
set_option maxHeartbeats 4000000 in
theorem plain21_any (w : World) : Calls Tryz.prog 73 #[] w fun e w' => (∃ Ar, e = .returned (.tuple #[.slice Ar 2 2, .agg #[.int .i64 42, .int .i64 1, .int .i64 3, .int .i64 20, .int .i64 2, .int .i64 1, .int .i64 0, .int .i64 10, .int .i64 1, .int .i64 1, .int .i64 0, .int .i64 5, .int .i64 1, .int .i64 0, .int .i64 0]]) ∧ RdK w' Ar ksX) ∧ Below w.heap.size w w' := by
  obtain ⟨W1, e1, p1, p2, p3, hz, hb⟩ := new3 w (.cells #[.int .i64 42, .int .i64 1, .int .i64 3, .int .i64 20, .int .i64 2, .int .i64 1, .int .i64 0, .int .i64 10, .int .i64 1, .int .i64 1, .int .i64 0, .int .i64 5, .int .i64 1, .int .i64 0, .int .i64 0] 28) (.cells #[.int .u8 1, .int .u8 2, .int .u8 3] 5) (.cells #[.int .u8 9] 5)
  have KC := bel1 W1 (.cells #[.int .i64 5, .slice (some ⟨w.heap.size + 1, 0, none⟩) 3 3, .int .i64 0, .int .i64 99, .int .i64 6, .slice (some ⟨w.heap.size + 1 + 1, 0, none⟩) 1 1, .int .i64 0, .int .i64 99] 56)
  have p4 := heap_alloc_new W1 (.cells #[.int .i64 5, .slice (some ⟨w.heap.size + 1, 0, none⟩) 3 3, .int .i64 0, .int .i64 99, .int .i64 6, .slice (some ⟨w.heap.size + 1 + 1, 0, none⟩) 1 1, .int .i64 0, .int .i64 99] 56)
  have r1 : RdI W1 .u8 (some ⟨w.heap.size + 1, 0, none⟩) [1, 2, 3] := by
    have h := RdI.lit' (w := w.alloc (.cells #[.int .i64 42, .int .i64 1, .int .i64 3, .int .i64 20, .int .i64 2, .int .i64 1, .int .i64 0, .int .i64 10, .int .i64 1, .int .i64 1, .int .i64 0, .int .i64 5, .int .i64 1, .int .i64 0, .int .i64 0] 28)) (k := .u8) (l := [1, 2, 3]) (n := w.heap.size + 1) (t := 5) (by simp)
    rw [← e1]
    exact h.below (bel1 _ _)
  have r2 : RdI W1 .u8 (some ⟨w.heap.size + 1 + 1, 0, none⟩) [9] := by
    have h := RdI.lit' (w := (w.alloc (.cells #[.int .i64 42, .int .i64 1, .int .i64 3, .int .i64 20, .int .i64 2, .int .i64 1, .int .i64 0, .int .i64 10, .int .i64 1, .int .i64 1, .int .i64 0, .int .i64 5, .int .i64 1, .int .i64 0, .int .i64 0] 28)).alloc (.cells #[.int .u8 1, .int .u8 2, .int .u8 3] 5)) (k := .u8) (l := [9]) (n := w.heap.size + 1 + 1) (t := 5) (by simp)
    rw [← e1]
    exact h
  have hR := rdk_two _ _ 5 0 99 6 0 99 _ _ 3 1 3 1 [1, 2, 3] [9] p4 rfl rfl (r1.below KC) (r2.below KC) (by decide) (by decide) (by decide) (by decide) (by decide) (by decide)
  have hF := (KC.block _ (Array.getElem?_eq_some_iff.1 p1).1).trans p1
  have hBB := bT hb KC
  rw [← e1] at hR hF hBB
  simp only [World.size_alloc] at hR hF hBB
  clear p4 KC r1 r2 p1 p2 p3 hz hb e1
  go_enter Tryz.func73, Tryz.ntmps73
  go_wp2
  exact bodyPost_ret (ac_tmprow rfl Tryz.underlying28 rfl rfl rfl hF (by exact infoRd21)) rfl ⟨⟨_, rfl, hR⟩, hBB⟩
set_option maxHeartbeats 8000000 in
set_option maxRecDepth 100000 in
theorem crossed_any (w : World) : Calls Tryz.prog 27 #[] w fun e w' => e = .returned (.bool true) ∧ Below w.heap.size w w' := by
  obtain ⟨b, s, q1, q2, q3, q4, q5, q6, q7, q8, q9, q10, q11, q12⟩ := cross_facts
  obtain ⟨nb, hnb⟩ : ∃ n, b.length = n := ⟨_, rfl⟩
  obtain ⟨ns, hns⟩ : ∃ n, s.length = n := ⟨_, rfl⟩
  have hE : ∀ (A : Option Addr) (c : Nat) (W : World), RdK W A ksX → Calls Tryz.prog 13 #[.slice A 2 c, .agg #[.int .i64 42, .int .i64 1, .int .i64 3, .int .i64 20, .int .i64 2, .int .i64 1, .int .i64 0, .int .i64 10, .int .i64 1, .int .i64 1, .int .i64 0, .int .i64 5, .int .i64 1, .int .i64 0, .int .i64 0]] W (ByteRetE (b, 0) W) := by
      intro A c W h1
      have h := stEncode_any A c ksX 42 1 3 20 2 1 0 10 1 1 0 5 1 0 0 W h1 (by decide) (by decide)
      rw [show [(42 : Int), (1 : Int), (3 : Int), (20 : Int), (2 : Int), (1 : Int), (0 : Int), (10 : Int), (1 : Int), (1 : Int), (0 : Int), (5 : Int), (1 : Int), (0 : Int), (0 : Int)] = rX from rfl, q5] at h
      exact h
  have hB1 : ∀ (A As : Option Addr) (c cs : Nat) (W : World), RdK W A ksX → RdI W .u8 As b → Calls Tryz.prog 25 #[.slice A 2 c, .slice As nb cs, .int .i64 2, .int .i64 6] W (ToBRet (s, 1, 0, 0) W) := by
      intro A As c cs W h1 h2
      have h := toBarcode_any A c ksX As cs b 2 6 W h1 (by decide) h2 (by first | omega | (simp; done)) q1
      rw [q6] at h
      rw [hnb] at h
      exact h
  have hB2 : ∀ (A As : Option Addr) (c cs : Nat) (W : World), RdK W A ksX → RdI W .u8 As b → Calls Tryz.prog 25 #[.slice A 2 c, .slice As nb cs, .int .i64 1, .int .i64 6] W (ToBRet ([], 0, 0, 18) W) := by
      intro A As c cs W h1 h2
      have h := toBarcode_any A c ksX As cs b 1 6 W h1 (by decide) h2 (by first | omega | (simp; done)) q1
      rw [q8] at h
      rw [hnb] at h
      exact h
  have hB3 : ∀ (A As : Option Addr) (c cs : Nat) (W : World), RdK W A ksX → RdI W .u8 As [] → Calls Tryz.prog 25 #[.slice A 2 c, .slice As 0 cs, .int .i64 2, .int .i64 6] W (ToBRet ([], 0, 0, 14) W) := by
      intro A As c cs W h1 h2
      have h := toBarcode_any A c ksX As cs [] 2 6 W h1 (by decide) h2 (by first | omega | (simp; done)) (by simp)
      rw [q11] at h
      exact h
  have hS1 : ∀ (A As : Option Addr) (c cs : Nat) (W : World), RdK W A ksX → RdI W .u8 As s → ns ≤ cs → cs ≤ 9223372036854775807 → Calls Tryz.prog 28 #[.slice A 2 c, .slice As ns cs, .agg #[.int .i64 1, .int .i64 0], .int .i64 5] W (ByteRetE (b, 0) W) := by
      intro A As c cs W h1 h2 h3 h4
      have h := toStripe_any A c ksX As cs s 1 0 5 W h1 (by decide) h2 (by omega) h4 q3 (by omega) (by decide) (by decide) (by decide)
      rw [q7, hns] at h
      exact h
  have hS2 : ∀ (A As : Option Addr) (c cs : Nat) (W : World), RdK W A ksX → RdI W .u8 As s → ns ≤ cs → cs ≤ 9223372036854775807 → Calls Tryz.prog 28 #[.slice A 2 c, .slice As ns cs, .agg #[.int .i64 2, .int .i64 0], .int .i64 5] W (ByteRetE ([], 1) W) := by
      intro A As c cs W h1 h2 h3 h4
      have h := toStripe_any A c ksX As cs s 2 0 5 W h1 (by decide) h2 (by omega) h4 q3 (by omega) (by decide) (by decide) (by decide)
      rw [q9, hns] at h
      exact h
  have hS3 : ∀ (A As : Option Addr) (c cs : Nat) (W : World), RdK W A ksX → RdI W .u8 As s → ns ≤ cs → cs ≤ 9223372036854775807 → Calls Tryz.prog 28 #[.slice A 2 c, .slice As ns cs, .agg #[.int .i64 1, .int .i64 0], .int .i64 7] W (ByteRetE ([], 10) W) := by
      intro A As c cs W h1 h2 h3 h4
      have h := toStripe_any A c ksX As cs s 1 0 7 W h1 (by decide) h2 (by omega) h4 q3 (by omega) (by decide) (by decide) (by decide)
      rw [q10, hns] at h
      exact h
  have hD : ∀ (A As : Option Addr) (c cs : Nat) (W : World), RdK W A ksX → RdI W .u8 As s → ns ≤ cs → cs ≤ 9223372036854775807 → Calls Tryz.prog 31 #[.slice A 2 c, .slice As ns cs] W fun e w' => e = .returned (.tuple #[.agg #[.int .i64 42, .int .i64 1, .int .i64 3, .int .i64 20, .int .i64 2, .int .i64 1, .int .i64 0, .int .i64 10, .int .i64 1, .int .i64 1, .int .i64 0, .int .i64 6, .int .i64 0, .int .i64 0, .int .i64 2], .int .i64 0]) ∧ Below W.heap.size W w' := by
      intro A As c cs W h1 h2 h3 h4
      have h := bcDecode_any A c ksX As cs s W h1 (by decide) h2 (by omega) h4 q3 (by omega)
      rw [q12, hns] at h
      exact h
  have hQ : ∀ (A B : Option Addr) (c d : Nat) (W : World), RdI W .u8 A b → RdI W .u8 B b → Calls Tryz.prog 16 #[.slice A nb c, .slice B nb d] W fun e w' => e = .returned (.bool true) ∧ Below W.heap.size W w' := by
      intro A B c d W h1 h2
      have h := same01_any A B c d b b W h1 h2 (by omega) (by omega)
      rw [hnb] at h
      refine h.mono ?_
      rintro e w' ⟨rfl, n, rfl⟩
      exact ⟨by simp, bN (bR _) n⟩
  have HNB := Lib.hid hnb
  have HNS := Lib.hid hns
  clear q1 q2 q3 q4 q5 q6 q7 q8 q9 q10 q11 q12 hnb hns
  go_enter Tryz.func27, Tryz.ntmps27
  go_wp2_with (first | (go_at_call 73; (with_reducible refine (plain21_any _).mono ?_); rintro e w1 ⟨⟨Ar, rfl, hk1⟩, hb1⟩; have hA1 := bel1 w1 (.cells #[.int .i64 42, .int .i64 1, .int .i64 3, .int .i64 20, .int .i64 2, .int .i64 1, .int .i64 0, .int .i64 10, .int .i64 1, .int .i64 1, .int .i64 0, .int .i64 5, .int .i64 1, .int .i64 0, .int .i64 0] 28); have P1 : (w1.alloc (.cells #[.int .i64 42, .int .i64 1, .int .i64 3, .int .i64 20, .int .i64 2, .int .i64 1, .int .i64 0, .int .i64 10, .int .i64 1, .int .i64 1, .int .i64 0, .int .i64 5, .int .i64 1, .int .i64 0, .int .i64 0] 28)).heap[w1.heap.size]? = some (.cells #[.int .i64 42, .int .i64 1, .int .i64 3, .int .i64 20, .int .i64 2, .int .i64 1, .int .i64 0, .int .i64 10, .int .i64 1, .int .i64 1, .int .i64 0, .int .i64 5, .int .i64 1, .int .i64 0, .int .i64 0] 28 (0, 0)) := heap_alloc_new w1 _; have K1 := hk1.below hA1 (Nat.le_refl _); have B1 := bT hb1 hA1; clear hA1 hk1 hb1) | (go_at_call 13; (with_reducible refine (hE Ar 2 _ K1).mono ?_); rintro e w2 ⟨v, rfl, ho, hb2⟩; replace ho := ho; simp only [HNB.out] at ho; obtain ⟨As, cs, rfl, u1, u2⟩ := own_slice ho; have S2 := rd_own_len HNB.out ho; have K2 := K1.below hb2 (Nat.le_refl _); have P2 := (hb2.block _ (Array.getElem?_eq_some_iff.1 P1).1).trans P1; have B2 := bT B1 hb2; clear ho hb2) | (go_at_call 25; (with_reducible refine (hB1 Ar As 2 cs _ K2 S2).mono ?_); rintro e w3 ⟨v, rfl, ho, hb3⟩; simp only [HNS.out] at ho; obtain ⟨A3, c3, rfl, u3, u4⟩ := own_slice ho; have T3x := rd_own_len HNS.out ho; have hC := bA hb3 (.cells #[.int .i64 1, .int .i64 0] 26); have J3 : (w3.alloc (.cells #[.int .i64 1, .int .i64 0] 26)).heap[w3.heap.size]? = some (.cells #[.int .i64 1, .int .i64 0] 26 (0, 0)) := heap_alloc_new w3 _; have T3 := T3x.below (bel1 w3 (.cells #[.int .i64 1, .int .i64 0] 26)); have K3 := K2.below hC (Nat.le_refl _); have S3 := S2.below hC; have P3 := (hC.block _ (Array.getElem?_eq_some_iff.1 P2).1).trans P2; have B3 := bT B2 hC; clear ho hb3 hC T3x) | (go_at_call 28; (with_reducible refine (hS1 Ar A3 2 c3 _ K3 T3 (by omega) (by unfold maxLen at u4; omega)).mono ?_); rintro e w4 ⟨v, rfl, ho, hb4⟩; simp only [HNB.out] at ho; obtain ⟨A4, c4, rfl, _, _⟩ := own_slice ho; have C4 := rd_own_len HNB.out ho; have K4 := K3.below hb4 (Nat.le_refl _); have S4 := S3.below hb4; have T4 := T3.below hb4; have P4 := (hb4.block _ (Array.getElem?_eq_some_iff.1 P3).1).trans P3; have J4 := (hb4.block _ (Array.getElem?_eq_some_iff.1 J3).1).trans J3; have B4 := bT B3 hb4; clear ho hb4) | (go_at_call 25; (with_reducible refine (hB2 Ar As 2 cs _ K4 S4).mono ?_); rintro e w5 ⟨v5, rfl, _, hb5⟩; have hC := bA hb5 (.cells #[.int .i64 0, .int .i64 0] 26); have K5 := K4.below hC (Nat.le_refl _); have S5 := S4.below hC; have T5 := T4.below hC; have C5 := C4.below hC; have P5 := (hC.block _ (Array.getElem?_eq_some_iff.1 P4).1).trans P4; have J5 := (hC.block _ (Array.getElem?_eq_some_iff.1 J4).1).trans J4; have B5 := bT B4 hC; clear hb5 hC) | (go_at_call 28; (with_reducible refine (hS2 Ar A3 2 c3 _ K5 T5 (by omega) (by unfold maxLen at u4; omega)).mono ?_); rintro e w6 ⟨v6, rfl, _, hb6⟩; have K6 := K5.below hb6 (Nat.le_refl _); have S6 := S5.below hb6; have T6 := T5.below hb6; have C6 := C5.below hb6; have P6 := (hb6.block _ (Array.getElem?_eq_some_iff.1 P5).1).trans P5; have J6 := (hb6.block _ (Array.getElem?_eq_some_iff.1 J5).1).trans J5; have B6 := bT B5 hb6; have j60 := ac_cells2 J6; clear hb6) | (go_at_call 28; (with_reducible refine (hS3 Ar A3 2 c3 _ K6 T6 (by omega) (by unfold maxLen at u4; omega)).mono ?_); rintro e w7 ⟨v7, rfl, _, hb7⟩; have K7 := K6.below hb7 (Nat.le_refl _); have S7 := S6.below hb7; have T7 := T6.below hb7; have C7 := C6.below hb7; have P7 := (hb7.block _ (Array.getElem?_eq_some_iff.1 P6).1).trans P6; have J7 := (hb7.block _ (Array.getElem?_eq_some_iff.1 J6).1).trans J6; have B7 := bT B6 hb7; clear hb7) | (go_at_call 25; (with_reducible refine (hB3 Ar none 2 0 _ K7 (RdI.nil _ _ _)).mono ?_); rintro e w8 ⟨v8, rfl, _, hb8⟩; have hC := bA hb8 (.cells #[.int .i64 0, .int .i64 0] 26); have K8 := K7.below hC (Nat.le_refl _); have S8 := S7.below hC; have T8 := T7.below hC; have C8 := C7.below hC; have P8 := (hC.block _ (Array.getElem?_eq_some_iff.1 P7).1).trans P7; have J8 := (hC.block _ (Array.getElem?_eq_some_iff.1 J7).1).trans J7; have B8 := bT B7 hC; clear hb8 hC) | (go_at_call 31; (with_reducible refine (hD Ar A3 2 c3 _ K8 T8 (by omega) (by unfold maxLen at u4; omega)).mono ?_); rintro e w9 ⟨rfl, hb9⟩; have hC := bA hb9 (.cells #[.int .i64 42, .int .i64 1, .int .i64 3, .int .i64 20, .int .i64 2, .int .i64 1, .int .i64 0, .int .i64 10, .int .i64 1, .int .i64 1, .int .i64 0, .int .i64 6, .int .i64 0, .int .i64 0, .int .i64 2] 28); have X9 : (w9.alloc (.cells #[.int .i64 42, .int .i64 1, .int .i64 3, .int .i64 20, .int .i64 2, .int .i64 1, .int .i64 0, .int .i64 10, .int .i64 1, .int .i64 1, .int .i64 0, .int .i64 6, .int .i64 0, .int .i64 0, .int .i64 2] 28)).heap[w9.heap.size]? = some (.cells #[.int .i64 42, .int .i64 1, .int .i64 3, .int .i64 20, .int .i64 2, .int .i64 1, .int .i64 0, .int .i64 10, .int .i64 1, .int .i64 1, .int .i64 0, .int .i64 6, .int .i64 0, .int .i64 0, .int .i64 2] 28 (0, 0)) := heap_alloc_new w9 _; have S9 := S8.below hC; have C9 := C8.below hC; have P9 := (hC.block _ (Array.getElem?_eq_some_iff.1 P8).1).trans P8; have J9 := (hC.block _ (Array.getElem?_eq_some_iff.1 J8).1).trans J8; have B9 := bT B8 hC; have cp0 := cell_of_row _ w1.heap.size 0 _ _ _ P9; have cp1 := cell_of_row _ w1.heap.size 1 _ _ _ P9; have cp2 := cell_of_row _ w1.heap.size 2 _ _ _ P9; have cp3 := cell_of_row _ w1.heap.size 3 _ _ _ P9; have cp4 := cell_of_row _ w1.heap.size 4 _ _ _ P9; have cp5 := cell_of_row _ w1.heap.size 5 _ _ _ P9; have cp6 := cell_of_row _ w1.heap.size 6 _ _ _ P9; have cp7 := cell_of_row _ w1.heap.size 7 _ _ _ P9; have cp8 := cell_of_row _ w1.heap.size 8 _ _ _ P9; have cp9 := cell_of_row _ w1.heap.size 9 _ _ _ P9; have cp10 := cell_of_row _ w1.heap.size 10 _ _ _ P9; have cp11 := cell_of_row _ w1.heap.size 11 _ _ _ P9; have cp12 := cell_of_row _ w1.heap.size 12 _ _ _ P9; have cp13 := cell_of_row _ w1.heap.size 13 _ _ _ P9; have cp14 := cell_of_row _ w1.heap.size 14 _ _ _ P9; have cx0 := cell_of_row _ w9.heap.size 0 _ _ _ X9; have cx1 := cell_of_row _ w9.heap.size 1 _ _ _ X9; have cx2 := cell_of_row _ w9.heap.size 2 _ _ _ X9; have cx3 := cell_of_row _ w9.heap.size 3 _ _ _ X9; have cx4 := cell_of_row _ w9.heap.size 4 _ _ _ X9; have cx5 := cell_of_row _ w9.heap.size 5 _ _ _ X9; have cx6 := cell_of_row _ w9.heap.size 6 _ _ _ X9; have cx7 := cell_of_row _ w9.heap.size 7 _ _ _ X9; have cx8 := cell_of_row _ w9.heap.size 8 _ _ _ X9; have cx9 := cell_of_row _ w9.heap.size 9 _ _ _ X9; have cx10 := cell_of_row _ w9.heap.size 10 _ _ _ X9; have cx11 := cell_of_row _ w9.heap.size 11 _ _ _ X9; have cx12 := cell_of_row _ w9.heap.size 12 _ _ _ X9; have cx13 := cell_of_row _ w9.heap.size 13 _ _ _ X9; have cx14 := cell_of_row _ w9.heap.size 14 _ _ _ X9; have cj0 := cell_of_row _ w3.heap.size 0 _ _ _ J9; have cj1 := cell_of_row _ w3.heap.size 1 _ _ _ J9; clear hb9 hC) | (go_at_call 16; (with_reducible refine (hQ _ _ _ _ _ S9 C9).mono ?_); rintro e w10 ⟨rfl, hb10⟩; have P10 := (hb10.block _ (Array.getElem?_eq_some_iff.1 P9).1).trans P9; have X10 := (hb10.block _ (Array.getElem?_eq_some_iff.1 X9).1).trans X9; have B10 := bT B9 hb10; have dp0 := cell_of_row _ w1.heap.size 0 _ _ _ P10; have dp1 := cell_of_row _ w1.heap.size 1 _ _ _ P10; have dp2 := cell_of_row _ w1.heap.size 2 _ _ _ P10; have dp3 := cell_of_row _ w1.heap.size 3 _ _ _ P10; have dp4 := cell_of_row _ w1.heap.size 4 _ _ _ P10; have dp5 := cell_of_row _ w1.heap.size 5 _ _ _ P10; have dp6 := cell_of_row _ w1.heap.size 6 _ _ _ P10; have dp7 := cell_of_row _ w1.heap.size 7 _ _ _ P10; have dp8 := cell_of_row _ w1.heap.size 8 _ _ _ P10; have dp9 := cell_of_row _ w1.heap.size 9 _ _ _ P10; have dp10 := cell_of_row _ w1.heap.size 10 _ _ _ P10; have dp11 := cell_of_row _ w1.heap.size 11 _ _ _ P10; have dp12 := cell_of_row _ w1.heap.size 12 _ _ _ P10; have dp13 := cell_of_row _ w1.heap.size 13 _ _ _ P10; have dp14 := cell_of_row _ w1.heap.size 14 _ _ _ P10; have dx0 := cell_of_row _ w9.heap.size 0 _ _ _ X10; have dx1 := cell_of_row _ w9.heap.size 1 _ _ _ X10; have dx2 := cell_of_row _ w9.heap.size 2 _ _ _ X10; have dx3 := cell_of_row _ w9.heap.size 3 _ _ _ X10; have dx4 := cell_of_row _ w9.heap.size 4 _ _ _ X10; have dx5 := cell_of_row _ w9.heap.size 5 _ _ _ X10; have dx6 := cell_of_row _ w9.heap.size 6 _ _ _ X10; have dx7 := cell_of_row _ w9.heap.size 7 _ _ _ X10; have dx8 := cell_of_row _ w9.heap.size 8 _ _ _ X10; have dx9 := cell_of_row _ w9.heap.size 9 _ _ _ X10; have dx10 := cell_of_row _ w9.heap.size 10 _ _ _ X10; have dx11 := cell_of_row _ w9.heap.size 11 _ _ _ X10; have dx12 := cell_of_row _ w9.heap.size 12 _ _ _ X10; have dx13 := cell_of_row _ w9.heap.size 13 _ _ _ X10; have dx14 := cell_of_row _ w9.heap.size 14 _ _ _ X10; clear hb10) | (refine wpList_load_row rfl 26 (.tmp 6) rfl w3.heap.size rfl 26 #[.int .i64 1, .int .i64 0] (0, 0) _ J3 Tryz.underlying26 rfl ?_ ?_; (focus (exact infoJn))) | (refine wpList_load_row rfl 26 (.tmp 6) rfl w3.heap.size rfl 26 #[.int .i64 1, .int .i64 0] (0, 0) _ J6 Tryz.underlying26 rfl ?_ ?_; (focus (exact infoJn))))
  go_ret
  exact ⟨rfl, B10⟩
end Go.Proofs.YtnbghgenaolfgaaGreat

namespace Go.Proofs.YtnbghgenaolfgaaGreat
open Go.RowKit
set_option linter.unusedVariables false
set_option maxRecDepth 100000

theorem row_caps {k : IntKind} {w : World} {a : Option Addr} {len cap : Nat} {zs : List Int} (h : IsRow k w a len cap zs) : len ≤ cap ∧ cap ≤ 9223372036854775807 := by
  rcases h with ⟨_, rfl, rfl, _⟩ | ⟨x, _, hl, hm, _, _, _⟩
  · exact ⟨Nat.le_refl _, by omega⟩
  · unfold maxLen at hm; exact ⟨hl, by omega⟩
theorem leaf_row {H : Type} {enc : TypeId × Value → H} {P : Program} {w : World} {base : Nat} {held : Bool} {t e : TypeId} {k : IntKind} {v : Value} (ht : P.underlying t = some (.slice e)) (he : P.underlying e = some (.int k)) (hc : P.cellsOf e = 1)
    (h : Leaf enc P w base (fun _ => true) held t v) : ∃ (a : Option Addr) (len cap : Nat) (zs : List Int), v = .slice a len cap ∧ IsRow k w a len cap zs := by
  obtain ⟨m, y, hf⟩ := h
  rcases Go.ChangeShapes.open_ints ht he hc hf with ⟨hcs, _⟩ | ⟨x, l, c, zs, hcs, _, hl, hm, hz, _, hcell, hwz⟩
  · have e : v = .slice none 0 0 := by simpa using hcs
    exact ⟨none, 0, 0, [], e, .inl ⟨rfl, rfl, rfl, rfl⟩⟩
  · have e : v = .slice (some x) l c := by simpa using hcs
    exact ⟨some x, l, c, zs, e, .inr ⟨_, rfl, hl, hm, by simpa using hz, hcell, hwz⟩⟩
end Go.Proofs.YtnbghgenaolfgaaGreat

namespace Go.Proofs.YtnbghgenaolfgaaGreat
open Go.RowKit
set_option linter.unusedVariables false
set_option maxRecDepth 100000
set_option linter.unusedSimpArgs false

/-- The four cells of a key that was laid: a number, a slice of bytes, two numbers. -/
theorem key_cells {H : Type} {enc : TypeId × Value → H} {W : World} {n : Nat} {cs : List Value} {x : DataW H × List MemPlace} (hl : cs.length = 4) (h : DataW.trod enc Tryz.prog W 0 (fun _ => true) true n 56 cs = some x) :
    ∃ (id fr til : Int) (B : Option Addr) (c : Nat) (sec : List Int), cs = [.int .i64 id, .slice B sec.length c, .int .i64 fr, .int .i64 til] ∧ sec.length ≤ c ∧ c ≤ 9223372036854775807 ∧ RdI W .u8 B sec ∧ ∀ b ∈ sec, 0 ≤ b ∧ b < 256 := by
  have L := open_leaves 6 56 (by kernel_rfl) n _ _ (by rw [hl]; kernel_rfl) h
  rw [show leavesOf Tryz.prog 6 56 = [3, 30, 3, 3] from by kernel_rfl] at L
  obtain ⟨c0, m0, rfl, g0, L⟩ := Lv_cons L
  obtain ⟨c1, m1, rfl, g1, L⟩ := Lv_cons L
  obtain ⟨c2, m2, rfl, g2, L⟩ := Lv_cons L
  obtain ⟨c3, m3, rfl, g3, L⟩ := Lv_cons L
  obtain rfl := Lv_nil L
  obtain ⟨id, rfl, _⟩ := leaf_int Tryz.underlying3 g0
  obtain ⟨fr, rfl, _⟩ := leaf_int Tryz.underlying3 g2
  obtain ⟨til, rfl, _⟩ := leaf_int Tryz.underlying3 g3
  obtain ⟨B, len, c, zs, rfl, hz⟩ := leaf_row Tryz.underlying30 Tryz.underlying5 (by kernel_rfl) g1
  obtain ⟨k1, k2⟩ := row_caps hz
  obtain ⟨sec, rfl, r1, r2, r3⟩ := rd_of_row hz
  exact ⟨id, fr, til, B, c, sec, rfl, k1, k2, r1, wfu8 r3⟩
theorem keys_upto {w : World} {a : Addr} : ∀ (n : Nat), (∀ j, j < n → ∃ k, KeyAt w (a.add (j * 4)) k) → ∃ l : List Ky, l.length = n ∧ ∀ j, (h : j < l.length) → KeyAt w (a.add (j * 4)) l[j]
  | 0, _ => ⟨[], rfl, fun j h => by simp at h⟩
  | n + 1, h => by
    obtain ⟨l, hl, hk⟩ := keys_upto n (fun j hj => h j (by omega))
    obtain ⟨k, hkn⟩ := h n (by omega)
    refine ⟨l ++ [k], by simp [hl], fun j hj => ?_⟩
    rw [List.length_append] at hj
    by_cases hjl : j < l.length
    · rw [List.getElem_append_left hjl]; exact hk j hjl
    · have : j = n := by simp at hj; omega
      subst this
      rw [List.getElem_append_right (by omega)]
      simpa [hl] using hkn
theorem keys_open {H : Type} {enc : TypeId × Value → H} {W : World} {n : Nat} {A : Option Addr} {len cap : Nat} {x : DataW H × List MemPlace} (h : DataW.trod enc Tryz.prog W 0 (fun _ => true) true n 22 [.slice A len cap] = some x) :
    ∃ ks : List Ky, len = ks.length ∧ RdK W A ks ∧ ks.length ≤ 9223372036854775807 := by
  rcases DataW.trod_slice Tryz.underlying22 h with ⟨hcs, _⟩ | ⟨a, len2, cap2, elems, rest, m, _, hcs, _, _, hle, hmx, hel, hat, _⟩
  · simp only [List.cons.injEq, Value.slice.injEq, and_true] at hcs
    obtain ⟨rfl, rfl, rfl⟩ := hcs
    exact ⟨[], rfl, .inl rfl, by simp⟩
  · simp only [List.cons.injEq, Value.slice.injEq, and_true] at hcs
    obtain ⟨rfl, rfl, rfl⟩ := hcs
    have hc4 : Tryz.prog.cellsOf 56 = 4 := by kernel_rfl
    rw [hc4] at hat
    have hk : ∀ j, j < len → ∃ k, KeyAt W (a.add (j * 4)) k := by
      intro j hj
      have e := hat j hj
      rw [List.getElem?_eq_getElem (by omega)] at e
      obtain ⟨cs, e1, e2⟩ := Option.bind_eq_some_iff.1 e
      obtain ⟨_, f2, f3⟩ := World.cells?_some e1
      obtain ⟨id, fr, til, B, c, sec, rfl, k1, k2, k3, k4⟩ := key_cells f2 e2
      have g0 := f3 0 (by omega)
      have g1 := f3 1 (by omega)
      have g2 := f3 2 (by omega)
      have g3 := f3 3 (by omega)
      rw [add_zero] at g0
      rw [show (a.add (j * 4)).add 1 = ⟨(a.add (j * 4)).block, (a.add (j * 4)).off + 1, none⟩ from add_succ _ 0] at g1
      rw [show (a.add (j * 4)).add 2 = ⟨(a.add (j * 4)).block, (a.add (j * 4)).off + 2, none⟩ from add_succ _ 1] at g2
      rw [show (a.add (j * 4)).add 3 = ⟨(a.add (j * 4)).block, (a.add (j * 4)).off + 3, none⟩ from add_succ _ 2] at g3
      exact ⟨⟨id, sec, fr, til⟩, B, c, g0, g1, g2, g3, k1, k2, k3, k4⟩
    obtain ⟨ks, hkl, hks⟩ := keys_upto len hk
    unfold maxLen at hmx
    refine ⟨ks, hkl.symm, ?_, by omega⟩
    by_cases h0 : len = 0
    · left; exact List.eq_nil_of_length_eq_zero (by omega)
    · obtain ⟨k, B, c, g0, _⟩ := hk 0 (by omega)
      have := World.block_lt_of_cell? W _ g0
      rw [add_block] at this
      exact .inr ⟨a, rfl, this, hks⟩
end Go.Proofs.YtnbghgenaolfgaaGreat

namespace Go.Proofs.YtnbghgenaolfgaaGreat
open Go.RowKit
set_option linter.unusedVariables false
set_option maxRecDepth 100000

theorem ints_sized {H : Type} {enc : TypeId × Value → H} {P : Program} {w : World} {held : Bool} {t e : TypeId} {k : IntKind} {fuel : Nat} {a : Option Addr} {len cap : Nat} {d : DataW H} {p : List MemPlace} (ht : P.underlying t = some (.slice e)) (he : P.underlying e = some (.int k)) (hc : P.cellsOf e = 1) (hb : P.bytesOf e = 1)
    (hf : DataW.trod enc P w 0 (fun _ => true) held fuel t [.slice a len cap] = some (d, p)) {ts : List TypeId} {ds : List (DataW H)} (hsz : (DataW.weightsEach P ts ds).all (· ≤ reachBytes) = true) {j : Nat} (hj : ts[j]? = some t) (hd : ds[j]? = some d) :
    len ≤ 140737488351232 := by
  rcases Go.ChangeShapes.open_ints ht he hc hf with ⟨hcs, _⟩ | ⟨x, l, c, zs, hcs, _, hl, hm, hz, hx, hcell, hwz⟩
  · have e : (Value.slice a len cap) = .slice none 0 0 := by simpa using hcs
    injection e with _ e _
    omega
  · have e : (Value.slice a len cap) = .slice (some x) l c := by simpa using hcs
    injection e with _ e1 e2
    obtain rfl : d = .slice (Go.ChangeShapes.lits k (zs.take l)) (Go.ChangeShapes.lits k (zs.drop l)) := congrArg Prod.fst hx
    have h := sized_slice hsz hj hd ht
    rw [hb] at h
    have hz' : zs.length = c := by simpa using hz
    simp only [Go.ChangeShapes.lits, List.length_map, List.length_take, List.length_drop] at h
    have hr : reachBytes = 140737488351232 := rfl
    omega
end Go.Proofs.YtnbghgenaolfgaaGreat

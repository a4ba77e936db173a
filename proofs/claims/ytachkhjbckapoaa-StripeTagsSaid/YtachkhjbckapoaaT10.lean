/- Layer 2: SHA-256's sum, by the program. Condition: not more than some 2^46 bytes. No condition. -/
import Derived.Test.YtachkhjbckapoaaT03
import Derived.Test.YtachkhjbckapoaaT04
import Derived.Test.YtachkhjbckapoaaT09
namespace Go.Proofs.Ytachkhjbckapoaa
open Go.RowKit
set_option linter.unusedVariables false
set_option maxRecDepth 100000
set_option linter.unusedSimpArgs false

def shaGo : Nat → List Int → List Nat → List Nat
  | 0, _, h => h
  | n + 1, p, h => shaGo n (p.drop 64) (blockN h (wordsN (p.take 64)))
def sumN (l : List Int) : List Int := bytesN (shaGo ((padN l).length / 64) (padN l) h0N)
theorem shaGo_len : ∀ (n : Nat) (p : List Int) (h : List Nat), h.length = 8 → (shaGo n p h).length = 8
  | 0, _, _, h => h
  | n + 1, p, h, hh => shaGo_len n _ _ (block_len hh)
theorem shaGo_W32 : ∀ (n : Nat) (p : List Int) (h : List Nat), W32 h → W32 (shaGo n p h)
  | 0, _, _, h => h
  | n + 1, p, h, hh => shaGo_W32 n _ _ block_W32
theorem sumN_len (l : List Int) : (sumN l).length = 32 := by unfold sumN; rw [bytesN_len, shaGo_len _ _ _ (by decide)]
theorem sumN_byte (l : List Int) : ∀ x ∈ sumN l, 0 ≤ x ∧ x < 256 := bytesN_byte _ (shaGo_W32 _ _ _ h0_W32)

/-- A whole array is loaded, in a region whose head is still. -/
theorem wpSt_load_row {P : Program} {ops : Array Oper} {rest : List Oper} {o : Oper} {a : Act} {w : World} {Q : Act → Prop} (hgd : o.guard = none) (ty : TypeId) (x : Operand) (ho : o.op = .load ty x)
    (g : Nat) (hx : a.eval x = .pointer (some ⟨g, 0, none⟩)) (t : TypeId) (cs : Array Value) (fr : Nat × Nat) (d : TypeDesc) (hg : w.heap[g]? = some (.cells cs t fr))
    (hu : P.underlying ty = some d) (hd : (match d with | .struct _ | .array _ _ => true | _ => false) = true) (hi : (P.info? ty).map (·.size) = some cs.size)
    (h : wpStill P ops w Q rest (a.put o.dst (.agg cs))) : wpStill P ops w Q (o :: rest) a := by
  unfold wpStill
  have hw : Region.wanted o (yielded ops a.tmps) = true := by simp [Region.wanted, hgd]
  rw [if_pos hw]
  unfold Oper.still execOp
  simp only [ho, hx, Instr.loadAt, Instr.sureAddr, Sem.run_bind, Sem.run_pure, Result.andThen_ok, run_loadVar_row w g t ty cs fr d hg hu hd hi]
  exact ⟨rfl, h⟩
theorem RdI.setRow {w : World} {k : IntKind} {A : Option Addr} {l : List Int} {g : Nat} {cs : Array Value} (h : RdI w k A l) (hne : ∀ ad, A = some ad → ad.block ≠ g) : RdI (w.setRow g cs) k A l := by
  rcases h with rfl | ⟨ad, e, hlt, hc⟩
  · exact .inl rfl
  · refine .inr ⟨ad, e, by simpa using hlt, fun j hj => ?_⟩
    rw [cell_setRow_other _ _ _ _ (by rw [add_block]; exact hne ad e)]
    exact hc j hj
theorem words_len (A : Option Addr) (c m n : Nat) (l : List Int) (w : World) (hn : l.length = n) (hr : RdI w .u8 A l) (hl : l.length = 4 * m) (hlc : l.length ≤ c) (hm : m ≤ 1000000) (hb : ∀ x ∈ l, 0 ≤ x ∧ x < 256) :
    Calls Try.prog 127 #[.slice A n c] w fun e w' => ∃ g, e = .returned (.tuple #[.slice (some ⟨g, 0, none⟩) m m, .int .i64 0]) ∧ w'.ownsRow w.heap.size 146 1 (.slice (some ⟨g, 0, none⟩) m m) m (wv (wordsN l)) ∧ Below w.heap.size w w' := by
  subst hn
  exact words_any A c m l w hr hl hlc hm hb
/-- A row that is full, known whole. -/
theorem own_full {w : World} {base e g n : Nat} {xs : List Value} (h : w.ownsRow base e 1 (.slice (some ⟨g, 0, none⟩) n n) n xs) : w.heap[g]? = some (.cells xs.toArray e (0, 0)) ∧ base ≤ g := by
  rcases h.2 with ⟨h', _⟩ | ⟨g', cap', cur, h', hb, hg, hnc, hcm, hcs, htake⟩
  · simp at h'
  · simp only [Value.slice.injEq, Option.some.injEq, Addr.mk.injEq, and_true, true_and] at h'
    obtain ⟨rfl, rfl⟩ := h'
    rw [List.take_of_length_le (by simp [hcs])] at htake
    refine ⟨?_, hb⟩
    rw [hg, ← htake]

theorem run_arrayAt {P : Program} (arr e : TypeId) (n : Nat) (a : Option Addr) (len c : Nat) (h : P.underlying arr = some (.array n e)) (hl : n ≤ len) (w : World) : (Instr.arrayAt arr (.slice a len c)).run P w = .ok (.pointer a) w := by
  simp [Instr.arrayAt, run_underlying h, Nat.not_lt.mpr hl]
theorem bytes_len (A : Option Addr) (c n : Nat) (l : List Nat) (w : World) (hn : l.length = n) (hr : RdI w .u32 A (l.map (fun n : Nat => (n : Int)))) (hl : n ≤ 1000000) (hb : W32 l) :
    Calls Try.prog 129 #[.slice A n c] w fun e w' => ∃ v, e = .returned v ∧ w'.ownsRow w.heap.size 5 1 v (bytesN l).length ((bytesN l).map (.int .u8)) ∧ Below w.heap.size w w' := by
  subst hn
  exact bytes_any A c l w hr hl hb
theorem map_add64 (A : Option Addr) : A.map (fun x : Addr => x.add 64) = A.map (fun x : Addr => (⟨x.block, x.off + 64, none⟩ : Addr)) := by cases A <;> simp [Addr.add]
theorem info32 : (Try.prog.info? 42).map (·.size) = some 32 := by kernel_rfl
def slen : Value → Nat
  | .slice _ n _ => n
  | _ => 0
set_option maxHeartbeats 4000000 in
theorem sum_any (A : Option Addr) (c : Nat) (l : List Int) (w : World) (hr : RdI w .u8 A l) (hl : l.length ≤ 70368744177664) (hb : ∀ x ∈ l, 0 ≤ x ∧ x < 256) :
    Calls Try.prog 94 #[.slice A l.length c] w fun e w' => e = .returned (.agg (bv (sumN l)).toArray) ∧ Below w.heap.size w w' := by
  obtain ⟨PD, hPD⟩ : ∃ P, padN l = P := ⟨_, rfl⟩
  have hpb := padN_byte hb
  have hpl := padN_len l
  obtain ⟨N, hN⟩ : ∃ N, PD.length = 64 * N := ⟨PD.length / 64, by rw [← hPD]; omega⟩
  have HSU : Hid (sumN l = bytesN (shaGo N PD h0N)) := Lib.hid (by unfold sumN; rw [hPD, hN, Nat.mul_div_cancel_left _ (by decide)])
  rw [hPD] at hpb hpl
  have HPD := Lib.hid hPD
  have HN := Lib.hid hN
  have HPL := Lib.hid hpl
  clear hPD hN hpl
  go_enter Try.func94, Try.ntmps94
  go_wp2_with (first | (refine wpL_build rfl 147 _ rfl (wv h0N).toArray ?_ ?_; (focus (as_aux_lemma => kernel_rfl))) | (refine wpList_store_row rfl 147 _ _ rfl (w.heap.size + 1) (wv h0N).toArray rfl rfl 147 _ (heap_alloc2_new w _ _) info8 ?_ (all_one (wv_one _)) ?_; (focus (kernel_rfl)); generalize hW1 : World.setRow _ _ _ = w1; have hg1 : w1.heap[w.heap.size + 1]? = some (.cells (wv h0N).toArray 147 (0, 0)) := (by rw [← hW1]; exact setRow_heap _ _ _ _ _ _ (heap_alloc2_new w _ _)); have hg0 : w1.heap[w.heap.size]? = some (.cells (bv (List.replicate 32 0)).toArray 42 (0, 0)) := (by rw [← hW1]; exact (setRow_other _ _ _ _ (by omega)).trans (heap_alloc2_old w _ _)); have hb1 : Below w.heap.size w w1 := (by rw [← hW1]; exact setRow_below (bA (bel1 w _) _) (by omega)); have hz1 : w1.heap.size = w.heap.size + 1 + 1 := (by rw [← hW1]; simp); clear hW1))
  have HB1 := Lib.hid hb1
  have HG0 := Lib.hid hg0
  have HG1 := Lib.hid hg1
  have hrp := hr.below hb1
  have HZ1 := Lib.hid hz1
  clear hg0 hg1 hz1
  refine (pad_any A c l w1 hrp hl).mono ?_
  rintro e w2 ⟨v2, rfl, ho2, hb2⟩
  rw [HPD.out] at ho2
  obtain ⟨A2, c2, rfl, hc2, hc3⟩ := own_slice ho2
  have hr2 := RdI.of_own ho2
  have hne2 : ∀ ad, A2 = some ad → w.heap.size + 1 < ad.block := by
    intro ad e
    have h := own_ge ho2 ad.block (by rw [e]; rfl)
    have := HZ1.out
    omega
  have hgh := (hb2.block (w.heap.size + 1) (by have := HZ1.out; omega)).trans HG1.out
  have hg0 := (hb2.block w.heap.size (by have := HZ1.out; omega)).trans HG0.out
  have HB2 := Lib.hid (bTg hb1 hb2 (by have := HZ1.out; omega))
  have hc4 : c2 ≤ 9223372036854775807 := by unfold maxLen at hc3; omega
  clear ho2 hrp
  go_wp2
  go_loopw [4] (fun p wr => ∃ (A' : Option Addr) (c' : Nat) (q : List Int) (H : List Nat) (m : Nat), p = .slice A' q.length c' ∧ Hid (q.length = 64 * m) ∧ q.length ≤ c' ∧ c' ≤ 9223372036854775807 ∧ RdI wr .u8 A' q ∧ Hid (∀ ad, A' = some ad → w.heap.size + 1 < ad.block) ∧ Hid (∀ x ∈ q, 0 ≤ x ∧ x < 256) ∧ Hid (wr.heap[w.heap.size + 1]? = some (.cells (wv H).toArray 147 (0, 0))) ∧ Hid (H.length = 8) ∧ W32 H ∧ Hid (shaGo m q H = shaGo N PD h0N) ∧ Below (w.heap.size + 1) w2 wr) (fun p _ => slen p)
  case atStart => exact ⟨A2, c2, PD, h0N, N, rfl, HN, hc2, hc4, hr2, Lib.hid hne2, Lib.hid hpb, Lib.hid hgh, Lib.hid (by decide), h0_W32, Lib.hid rfl, Below.refl _ _⟩
  case round =>
    obtain ⟨A', c', q, H, m, rfl, hqm, hqc, hc9, hrq, hneq, hqb, hH, hHl, hHw, hfin, hbq⟩ := hrel
    rcases m with _ | m
    · have hq0 : q = [] := List.eq_nil_of_length_eq_zero (by have := hqm.out; omega)
      subst hq0
      have hfin' := hfin.out
      have HF := Lib.hid hfin'
      clear hfin hfin'
      have harr := fun g c => run_arrayAt (P := Try.prog) 42 5 32 (some ⟨g, 0, none⟩) 32 c Try.underlying42 (Nat.le_refl _)
      simp only [List.length_nil]
      have hg0' := (hbq.block w.heap.size (by omega)).trans hg0
      have hzr : w.heap.size + 1 < wr.heap.size := (Array.getElem?_eq_some_iff.1 hH.out).1
      have HBQ := Lib.hid (bTg HB2.out hbq (by omega))
      have HG0' := Lib.hid hg0'
      clear hg0'
      go_wp2_with fail
      refine (bytes_len (some ⟨w.heap.size + 1, 0, none⟩) 8 8 H wr hHl.out (rd_roww hH.out) (by decide) hHw).mono ?_
      rintro e w5 ⟨v5, rfl, ho5, hb5⟩
      have hs5 : bytesN H = sumN l := by rw [HSU.out, ← HF.out]; rfl
      rw [hs5, sumN_len] at ho5
      obtain ⟨g5, c5, rfl⟩ : ∃ g5 c5, v5 = .slice (some ⟨g5, 0, none⟩) 32 c5 := by
        rcases ho5.2 with ⟨_, h⟩ | ⟨g, cap, cur, h, _⟩
        · cases h
        · exact ⟨g, cap, h⟩
      have hrg5 : w5.rangeAt g5 0 (bv (sumN l)) := fun j v hv => by
        have h := ho5.cells (g := g5) rfl j v hv
        rw [Addr.add_mid] at h
        exact h
      have HR5 := Lib.hid hrg5
      have HB5 := Lib.hid (bTg HBQ.out hb5 (by omega))
      have hg5 := (hb5.block w.heap.size (by omega)).trans HG0'.out
      have HG5 := Lib.hid hg5
      obtain ⟨SU, hSU⟩ : ∃ S, sumN l = S := ⟨_, rfl⟩
      have hSl : SU.length = 32 := by rw [← hSU]; exact sumN_len l
      rw [hSU] at HR5
      have HSL := Lib.hid hSl
      have HSE := Lib.hid hSU
      clear ho5 hrg5 hg5 hs5 hSU hSl hg0 hgh
      go_wp2_with (first | (refine wpList_load_mid rfl 42 (.tmp 28) rfl g5 0 rfl (bv SU) _ HR5.out Try.underlying42 rfl ?_ ?_; (focus (rw [bv_len, HSL.out]; exact info32))) | (refine wpList_store_row rfl 42 (.tmp 2) _ rfl w.heap.size (bv SU).toArray rfl rfl 42 _ HG5.out ?_ ?_ (all_one (bv_one _)) ?_; (focus (rw [List.size_toArray, bv_len, HSL.out]; exact info32)); (focus (rw [List.size_toArray, bv_len, List.size_toArray, bv_len, HSL.out]; rfl))))
      refine bodyPost_ret (v := .agg (bv SU).toArray) (results_cell_row rfl _ _ w.heap.size 42 (bv SU).toArray (0, 0) _ rfl (setRow_heap _ _ _ _ _ _ HG5.out) Try.underlying42 rfl (by rw [List.size_toArray, bv_len, HSL.out]; exact info32)) rfl ⟨by rw [← HSE.out], setRow_below HB5.out (Nat.le_refl _)⟩
    · have hq1 : (0 : Int) < (q.length : Int) := by have := hqm.out; omega
      have hq64 : (64 : Int) ≤ (q.length : Int) := by have := hqm.out; omega
      have hc64 : (64 : Int) ≤ (c' : Int) := by omega
      have htk : (q.take 64).length = 64 := by rw [List.length_take]; omega
      have HTK := Lib.hid htk
      clear htk
      go_wp2_with fail
      refine (words_len A' c' 16 64 (q.take 64) wr HTK.out (hrq.take 64) (by rw [HTK.out]) (by rw [HTK.out]; omega) (by decide) (fun x hx => hqb.out x (List.mem_of_mem_take hx))).mono ?_
      rintro e w3 ⟨g, rfl, ho3, hb3⟩
      obtain ⟨hg3, hg3b⟩ := own_full ho3
      have HG3 := Lib.hid hg3
      have hgh3 := (hb3.block (w.heap.size + 1) (Array.getElem?_eq_some_iff.1 hH.out).1).trans hH.out
      have hrq3 := hrq.below hb3
      have hz3 : w.heap.size + 1 < wr.heap.size := (Array.getElem?_eq_some_iff.1 hH.out).1
      have HB3 := Lib.hid (bTg hbq hb3 (by omega))
      have HWL := Lib.hid (wordsN_len 16 (q.take 64) (by rw [HTK.out]))
      have HWW := wordsN_W32 (q.take 64) (fun x hx => hqb.out x (List.mem_of_mem_take hx))
      obtain ⟨WS, hWS⟩ : ∃ WS, wordsN (q.take 64) = WS := ⟨_, rfl⟩
      rw [hWS] at HG3 HWL HWW
      have HWS := Lib.hid hWS
      have HGH3 := Lib.hid hgh3
      clear hWS hg3 ho3 hgh3
      have harr := run_arrayAt (P := Try.prog) 152 146 16 (some ⟨g, 0, none⟩) 16 16 Try.underlying152 (Nat.le_refl _)
      go_wp2
      refine wp_region_still_tail 4 (by kernel_rfl) (by kernel_rfl) ?_
      simp only [List.take_succ_cons, List.take_zero, List.drop_succ_cons, List.drop_zero]
      refine wpSt_load_row rfl 147 (.tmp 3) rfl (w.heap.size + 1) rfl 147 (wv H).toArray (0, 0) _ HGH3.out Try.underlying147 rfl (by rw [List.size_toArray, wv_len, hHl.out]; exact info8) ?_
      still_step
      still_step
      refine wpSt_load_row rfl 152 (.tmp 23) rfl g rfl 146 (wv WS).toArray (0, 0) _ HG3.out Try.underlying152 rfl (by rw [List.size_toArray, wv_len, HWL.out]; exact info16) ?_
      refine wpStill_nil ?_
      change wpList _ _ _ _ _ (World.drew w3)
      go_wp2_with fail
      refine (block_any H WS w3.drew hHl.out HWL.out hHw HWW).mono ?_
      rintro e w4 ⟨rfl, hb4⟩
      have hgh4 := (hb4.block (w.heap.size + 1) (Array.getElem?_eq_some_iff.1 HGH3.out).1).trans HGH3.out
      have hrq4 := hrq3.below (show Below w3.heap.size w3 w4 from ⟨hb4.os, hb4.tape, hb4.output, hb4.size, hb4.block⟩)
      have HB4 := Lib.hid (bTg (bDg HB3.out) hb4 (by have := (Array.getElem?_eq_some_iff.1 HGH3.out).1; show _ ≤ w3.heap.size; omega))
      have HBL := Lib.hid (block_len (w := WS) hHl.out)
      have HBW := block_W32 (h := H) (w := WS)
      obtain ⟨B, hB⟩ : ∃ B, blockN H WS = B := ⟨_, rfl⟩
      rw [hB] at HBL HBW
      have HB := Lib.hid hB
      have HGH4 := Lib.hid hgh4
      have hmm : q.length - 64 = (q.drop 64).length := by simp
      have HMM := Lib.hid hmm
      rw [hB]
      clear hB hgh4 hb4 hmm
      go_wp2_with (refine wpList_store_row rfl 147 _ _ rfl (w.heap.size + 1) (wv B).toArray rfl rfl 147 _ HGH4.out ?_ ?_ (all_one (wv_one _)) ?_; (focus (rw [List.size_toArray, wv_len, HBL.out]; exact info8)); (focus (rw [List.size_toArray, wv_len, List.size_toArray, wv_len, HBL.out, hHl.out])))
      go_roundw
      case rel => exact ⟨(if c' = 64 then A' else A'.map (·.add 64)), c' - 64, q.drop 64, B, m, by rw [← HMM.out, map_add64], Lib.hid (by rw [List.length_drop]; have := hqm.out; omega), by rw [List.length_drop]; omega, by omega, (hrq4.cut 64 hqc).setRow (fun ad e => by
          have h := hneq.out
          by_cases hc : c' = 64
          · rw [if_pos hc] at e; have := h ad e; omega
          · rw [if_neg hc] at e
            cases A' with
            | none => simp at e
            | some a0 => simp at e; have := h a0 rfl; rw [← e, add_block]; omega), Lib.hid (fun ad e => by
          have h := hneq.out
          by_cases hc : c' = 64
          · rw [if_pos hc] at e; exact h ad e
          · rw [if_neg hc] at e
            cases A' with
            | none => simp at e
            | some a0 => simp at e; have := h a0 rfl; rw [← e, add_block]; omega), Lib.hid (fun x hx => hqb.out x (List.mem_of_mem_drop hx)), Lib.hid (setRow_heap _ _ _ _ _ _ HGH4.out), HBL, HBW, Lib.hid (by rw [← hfin.out, shaGo, HWS.out, HB.out]), setRow_below HB4.out (Nat.le_refl _)⟩
      case measure => simp [slen]; have := hqm.out; omega
end Go.Proofs.Ytachkhjbckapoaa

/- Layer 3, the reference's tag. Condition: not more than 800000 bytes each. Layer 10: what parity's functions compute. A range over a function, where the iterator keeps state of its own in memory: the statement and the round, at the wide fence, without an abstract invariant. Layer 5: keys and rings of them: what they are, what ring.right tells. Layer 5: what ring.Is tells, for all keys. Layer 5: what ring.place and ring.Find tell, for all keys. No condition. -/
import Derived.Test.YtachkhjbckapoaaT11
import Derived.Test.YtachkhjbckapoaaT12
import Derived.Test.YtachkhjbckapoaaT05
import Derived.Test.YtachkhjbckapoaaT01
import Derived.Test.YtachkhjbckapoaaT00
import Derived.RangeFuncNested
import Derived.RangeFuncBound
import Derived.RangeFuncCalls
import Derived.RangeFuncLeaves
import Derived.RangeFuncBox
import Derived.Shelf.Abstract
import Derived.OwnWalkIn
import Derived.TacticsInMore
import Derived.LoopNIn
import Derived.LoopIn
import Derived.Deep.RegionHeld3
namespace Go.Proofs.Ytachkhjbckapoaa
open Go.RowKit
set_option linter.unusedVariables false
set_option maxRecDepth 100000
set_option linter.unusedSimpArgs false

theorem fill_set2 {α : Type} (l : List α) (z x : α) (t n : Nat) (ht : t < n) (hx : l[t]? = some x) :
    (l.take t ++ List.replicate (n - t) z).set t x = l.take (t + 1) ++ List.replicate (n - (t + 1)) z := by
  obtain ⟨m, hm⟩ : ∃ m, n - t = m + 1 := ⟨n - t - 1, by omega⟩
  have hlt : t < l.length := (List.getElem?_eq_some_iff.1 hx).1
  have hlen : (l.take t).length = t := by rw [List.length_take]; omega
  rw [hm, show n - (t + 1) = m by omega, List.replicate_succ, List.set_append, if_neg (by omega), hlen, Nat.sub_self, List.set_cons_zero, List.take_add_one, hx]
  simp

set_option maxHeartbeats 8000000 in
theorem refKey_any (A : Option Addr) (c : Nat) (l : List Int) (w : World) (hr : RdI w .u8 A l) (hl : l.length ≤ 800000) (hlc : l.length ≤ c) (hb : ∀ x ∈ l, 0 ≤ x ∧ x < 256) :
    Calls Try.prog 95 #[.slice A l.length c] w fun e w' => e = .returned (.agg (bv (keyN l)).toArray) ∧ Below w.heap.size w w' := by
  obtain ⟨KN, hKN⟩ : ∃ K, keyN l = K := ⟨_, rfl⟩
  have hKl : KN.length = 64 := by rw [← hKN]; exact keyN_len l
  have HKL := Lib.hid hKl
  have HKN := Lib.hid hKN
  clear hKl hKN
  obtain ⟨w0, hw0, g0, g1, z0, b0⟩ := new2 w (.cells (bv (List.replicate 64 0)).toArray 102) (.cells (bv (List.replicate 64 0)).toArray 102)
  have hq := Lib.hid hw0
  have hsz1 : w.heap.size + 1 < w0.heap.size := by omega
  obtain ⟨w3, hw3⟩ : ∃ w3, w0.setRow (w.heap.size + 1) (bv (List.replicate 64 0)).toArray = w3 := ⟨_, rfl⟩
  have HO : Hid (w3.heap[w.heap.size + 1]? = some (.cells (bv (List.replicate 64 0)).toArray 102 (0, 0))) := Lib.hid (by rw [← hw3]; exact setRow_heap _ _ _ _ _ _ g1)
  have HG3 : Hid (w3.heap[w.heap.size]? = some (.cells (bv (List.replicate 64 0)).toArray 102 (0, 0))) := Lib.hid (by rw [← hw3]; exact (setRow_other _ _ _ _ (by omega)).trans g0)
  have HB3 : Hid (Below w.heap.size w w3) := Lib.hid (by rw [← hw3]; exact setRow_below b0 (by omega))
  have HZ3 : Hid (w.heap.size + 1 < w3.heap.size) := Lib.hid (Array.getElem?_eq_some_iff.1 HO.out).1
  have HW3 := Lib.hid hw3
  have HG1 := Lib.hid g1
  have HR := Lib.hid (hr.below HB3.out)
  clear hw0 hw3 g0 g1 z0 b0 hsz1
  by_cases h64 : 64 < l.length
  · have HK : Hid (sumN l ++ List.replicate (64 - 32) 0 = KN) := Lib.hid (by rw [← HKN.out]; unfold keyN; rw [if_pos h64, sumN_len])
    have d1 : (64 : Int) < (l.length : Int) := by omega
    go_enter Try.func95, Try.ntmps95
    go_wp2_with (first | (refine wpL_build rfl 102 _ rfl (bv (List.replicate 64 0)).toArray ?_ ?_; (focus (as_aux_lemma => kernel_rfl))) | (refine wpList_store_row rfl 102 _ _ rfl (w.heap.size + 1) (bv (List.replicate 64 0)).toArray rfl rfl 102 _ (heap_alloc2_new w _ _) infoA64 (by kernel_rfl) (all_one (bv_one _)) ?_; generalize hW2 : World.setRow _ _ _ = w22; obtain rfl : w3 = w22 := (by rw [← HW3.out, ← hq.out, ← hW2]; kernel_rfl)))
    refine (refSum_any A c l w3 HR.out (by omega) hb).mono ?_
    rintro e w4 ⟨rfl, hb4⟩
    obtain ⟨S, hS⟩ : ∃ S, sumN l = S := ⟨_, rfl⟩
    have hSl : S.length = 32 := by rw [← hS]; exact sumN_len l
    rw [hS] at HK ⊢
    have HO4 := Lib.hid ((hb4.block _ HZ3.out).trans HO.out)
    have HG4 := Lib.hid ((hb4.block w.heap.size (by have := HZ3.out; omega)).trans HG3.out)
    have HB4 := Lib.hid (bT HB3.out hb4)
    have hz4 : w.heap.size + 1 < w4.heap.size := (Array.getElem?_eq_some_iff.1 HO4.out).1
    obtain ⟨w5, hw5, g5, hb5, hz5⟩ := newRow w4 (bv (List.replicate 32 0)).toArray (bv S).toArray 42
    have HO5 := Lib.hid ((hb5.block _ hz4).trans HO4.out)
    have HG5 := Lib.hid ((hb5.block w.heap.size (by omega)).trans HG4.out)
    have HB5 := Lib.hid (bT HB4.out hb5)
    have HR5 := Lib.hid (rd_row g5)
    have HS3 := Lib.hid hSl
    have HW5 := Lib.hid hw5
    have HNE5 : Hid (S = [] ∨ ∀ ad, (some ⟨w4.heap.size, 0, none⟩ : Option Addr) = some ad → ad.block ≠ w.heap.size + 1) := Lib.hid (.inr fun ad e => by rw [← Option.some.inj e]; show w4.heap.size ≠ _; omega)
    clear hS hSl hb4 hw5 g5 hb5 hz5 hl hr hb
    go_wp2_with (refine wpList_store_row rfl 42 _ _ rfl w4.heap.size (bv S).toArray rfl rfl 42 _ (heap_alloc_new w4 _) ?_ ?_ (all_one (bv_one _)) ?_; (focus (rw [List.size_toArray, bv_len, HS3.out]; exact info32)); (focus (show 32 = (bv S).toArray.size; rw [List.size_toArray, bv_len, HS3.out])); generalize hW3 : World.setRow _ _ _ = w33; obtain rfl : w5 = w33 := (by rw [← HW5.out, ← hW3]; kernel_rfl))
    have HSL : Hid (S.length ≤ 64) := Lib.hid (by rw [HS3.out]; decide)
    have HSN : Hid ((S.length : Int) = 32) := Lib.hid (by rw [HS3.out]; rfl)
    have HK : Hid (S ++ List.replicate (64 - S.length) 0 = KN) := Lib.hid (by rw [HS3.out]; exact HK.out)
    obtain ⟨A', hA'⟩ : ∃ A', (some ⟨w4.heap.size, 0, none⟩ : Option Addr) = A' := ⟨_, rfl⟩
    rw [hA'] at HNE5 HR5 ⊢
    have HO := HO5
    have HG3 := HG5
    have HB3 := HB5
    have HR := HR5
    have HNE := HNE5
    clear HO5 HG5 HB5 HR5 HNE5 hA' HO4 HG4 HB4 HW5 HS3 hlc d1
    obtain ⟨w3, rfl⟩ : ∃ w3 : World, w3 = w5 := ⟨_, rfl⟩
    go_loopw [5] (fun i wq => ∃ t : Nat, t ≤ S.length ∧ i = .int .i64 (t : Int) ∧ Hid (wq.heap[w.heap.size + 1]? = some (.cells (bv (S.take t ++ List.replicate (64 - t) 0)).toArray 102 (0, 0))) ∧ Hid (RdI wq .u8 A' S) ∧ Hid (Below (w.heap.size + 1) w3 wq)) (fun i _ => S.length - (intOf i).toNat)
    case atStart => exact ⟨0, Nat.zero_le _, rfl, HO, HR, Lib.hid (Below.refl _ _)⟩
    case round =>
      obtain ⟨t, ht, rfl, hg, hrs, hb8⟩ := hrel
      by_cases hts : t < S.length
      · have d0 : t < 64 := by have := HSL.out; omega
        have d1 : ((t : Int) < 64) := by omega
        have d2 : (t : Int) < 32 := by have := HSN.out; omega
        obtain ⟨sad, rfl, cl⟩ := hrs.out.at_ (j := t) hts
        obtain ⟨x, hx⟩ : ∃ x, S.getD t 0 = x := ⟨_, rfl⟩
        rw [hx] at cl
        have HX : Hid (S[t]? = some x) := Lib.hid (by rw [← hx]; simp [List.getD_eq_getElem?_getD, hts])
        have hl8 : (S.take t ++ List.replicate (64 - t) 0).length = 64 := by rw [List.length_append, List.length_take, List.length_replicate]; omega
        have cv := row_bv (j := t) hg.out (by omega)
        have fz := row_free hg.out
        clear hx hl8
        go_wp2
        go_roundw
        case rel => exact ⟨t + 1, by omega, by go_num, Lib.hid (by rw [← fill_set2 S 0 x t 64 d0 HX.out]; exact row_bset t x hg.out), Lib.hid (rdi_setCell hrs.out (HNE.out.resolve_left (fun h => by rw [h] at hts; simp at hts))), Lib.hid (bSg hb8.out (Nat.le_refl _) _)⟩
        case measure => simp [intOf]; omega
      · obtain rfl : t = S.length := by omega
        have d2 : ¬ ((S.length : Int) < 32) := by have := HSN.out; omega
        have hg' := hg.out
        rw [List.take_length, HK.out] at hg'
        have HG8 := Lib.hid hg'
        have HGW := Lib.hid ((hb8.out.block w.heap.size (by omega)).trans HG3.out)
        have HBE := Lib.hid (bTg HB3.out hb8.out (by omega))
        clear hg hg' hb8 ht hts hrs
        go_wp2_with (first | (refine wpList_load_row rfl 102 (.tmp 3) rfl (w.heap.size + 1) rfl 102 (bv KN).toArray (0, 0) _ HG8.out Try.underlying102 rfl ?_ ?_; (focus (rw [List.size_toArray, bv_len, HKL.out]; exact infoA64))) | (refine wpList_store_row rfl 102 (.tmp 2) _ rfl w.heap.size (bv KN).toArray rfl rfl 102 _ HGW.out ?_ ?_ (all_one (bv_one _)) ?_; (focus (rw [List.size_toArray, bv_len, HKL.out]; exact infoA64)); (focus (rw [List.size_toArray, bv_len, List.size_toArray, bv_len, HKL.out]; rfl))))
        refine bodyPost_ret (v := .agg (bv KN).toArray) (results_cell_row rfl _ _ w.heap.size 102 (bv KN).toArray (0, 0) _ rfl (setRow_heap _ _ _ _ _ _ HGW.out) Try.underlying102 rfl (by rw [List.size_toArray, bv_len, HKL.out]; exact infoA64)) rfl ⟨by rw [← HKN.out], setRow_below HBE.out (Nat.le_refl _)⟩
  · have HK : Hid (l ++ List.replicate (64 - l.length) 0 = KN) := Lib.hid (by rw [← HKN.out]; unfold keyN; rw [if_neg h64])
    have d1 : ¬ (64 : Int) < (l.length : Int) := by omega
    have HSL : Hid (l.length ≤ 64) := Lib.hid (by omega)
    have HSN : Hid ((l.length : Int) = (l.length : Int)) := Lib.hid rfl
    have HNE : Hid (l = [] ∨ ∀ ad, A = some ad → ad.block ≠ w.heap.size + 1) := Lib.hid (by
      rcases hr with h | ⟨a2, e2, hlt, _⟩
      · exact .inl h
      · exact .inr (fun ad e => by rw [e] at e2; rw [Option.some.inj e2]; omega))
    go_enter Try.func95, Try.ntmps95
    clear hl hr hb hlc
    go_wp2_with (first | (refine wpL_build rfl 102 _ rfl (bv (List.replicate 64 0)).toArray ?_ ?_; (focus (as_aux_lemma => kernel_rfl))) | (refine wpList_store_row rfl 102 _ _ rfl (w.heap.size + 1) (bv (List.replicate 64 0)).toArray rfl rfl 102 _ (heap_alloc2_new w _ _) infoA64 (by kernel_rfl) (all_one (bv_one _)) ?_; generalize hW2 : World.setRow _ _ _ = w22; obtain rfl : w3 = w22 := (by rw [← HW3.out, ← hq.out, ← hW2]; kernel_rfl)))
    clear d1
    obtain ⟨S, rfl⟩ : ∃ S, S = l := ⟨_, rfl⟩
    obtain ⟨A', rfl⟩ : ∃ A', A' = A := ⟨_, rfl⟩
    go_loopw [5] (fun i wq => ∃ t : Nat, t ≤ S.length ∧ i = .int .i64 (t : Int) ∧ Hid (wq.heap[w.heap.size + 1]? = some (.cells (bv (S.take t ++ List.replicate (64 - t) 0)).toArray 102 (0, 0))) ∧ Hid (RdI wq .u8 A' S) ∧ Hid (Below (w.heap.size + 1) w3 wq)) (fun i _ => S.length - (intOf i).toNat)
    case atStart => exact ⟨0, Nat.zero_le _, rfl, HO, HR, Lib.hid (Below.refl _ _)⟩
    case round =>
      obtain ⟨t, ht, rfl, hg, hrs, hb8⟩ := hrel
      by_cases hts : t < S.length
      · have d0 : t < 64 := by have := HSL.out; omega
        have d1 : ((t : Int) < 64) := by omega
        have d2 : (t : Int) < (S.length : Int) := by have := HSN.out; omega
        obtain ⟨sad, rfl, cl⟩ := hrs.out.at_ (j := t) hts
        obtain ⟨x, hx⟩ : ∃ x, S.getD t 0 = x := ⟨_, rfl⟩
        rw [hx] at cl
        have HX : Hid (S[t]? = some x) := Lib.hid (by rw [← hx]; simp [List.getD_eq_getElem?_getD, hts])
        have hl8 : (S.take t ++ List.replicate (64 - t) 0).length = 64 := by rw [List.length_append, List.length_take, List.length_replicate]; omega
        have cv := row_bv (j := t) hg.out (by omega)
        have fz := row_free hg.out
        clear hx hl8
        go_wp2
        go_roundw
        case rel => exact ⟨t + 1, by omega, by go_num, Lib.hid (by rw [← fill_set2 S 0 x t 64 d0 HX.out]; exact row_bset t x hg.out), Lib.hid (rdi_setCell hrs.out (HNE.out.resolve_left (fun h => by rw [h] at hts; simp at hts))), Lib.hid (bSg hb8.out (Nat.le_refl _) _)⟩
        case measure => simp [intOf]; omega
      · obtain rfl : t = S.length := by omega
        have d2 : ¬ ((S.length : Int) < (S.length : Int)) := by have := HSN.out; omega
        have hg' := hg.out
        rw [List.take_length, HK.out] at hg'
        have HG8 := Lib.hid hg'
        have HGW := Lib.hid ((hb8.out.block w.heap.size (by omega)).trans HG3.out)
        have HBE := Lib.hid (bTg HB3.out hb8.out (by omega))
        clear hg hg' hb8 ht hts hrs
        go_wp2_with (first | (refine wpList_load_row rfl 102 (.tmp 3) rfl (w.heap.size + 1) rfl 102 (bv KN).toArray (0, 0) _ HG8.out Try.underlying102 rfl ?_ ?_; (focus (rw [List.size_toArray, bv_len, HKL.out]; exact infoA64))) | (refine wpList_store_row rfl 102 (.tmp 2) _ rfl w.heap.size (bv KN).toArray rfl rfl 102 _ HGW.out ?_ ?_ (all_one (bv_one _)) ?_; (focus (rw [List.size_toArray, bv_len, HKL.out]; exact infoA64)); (focus (rw [List.size_toArray, bv_len, List.size_toArray, bv_len, HKL.out]; rfl))))
        refine bodyPost_ret (v := .agg (bv KN).toArray) (results_cell_row rfl _ _ w.heap.size 102 (bv KN).toArray (0, 0) _ rfl (setRow_heap _ _ _ _ _ _ HGW.out) Try.underlying102 rfl (by rw [List.size_toArray, bv_len, HKL.out]; exact infoA64)) rfl ⟨by rw [← HKN.out], setRow_below HBE.out (Nat.le_refl _)⟩

theorem map_take_succ {K : List Int} {t : Nat} {x b : Int} (hx : K[t]? = some x) : (K.take t).map (xorB · b) ++ [xorB x b] = (K.take (t + 1)).map (xorB · b) := by
  rw [List.take_add_one, hx]; simp
/-- An append onto one of two rows leaves the other. -/
theorem two_app {W w3 : World} {B e1 e2 n1 n2 : Nat} {v u v' : Value} {xs ys : List Value} (hv : W.ownsRow B e1 1 v n1 xs) (hu : W.ownsRow B e2 1 u n2 ys) (hne : v.ownBlock ≠ u.ownBlock)
    (hg : W.grownBy w3 v.ownBlock) (hb : v'.ownBlock = v.ownBlock ∨ v'.ownBlock = some W.heap.size) : w3.ownsRow B e2 1 u n2 ys ∧ v'.ownBlock ≠ u.ownBlock := by
  refine ⟨hu.kept hg (.inr hne.symm), ?_⟩
  rcases hb with h | h
  · rw [h]; exact hne
  · rw [h]
    intro e
    have := (hu.lt _ e.symm).2
    omega
theorem wpL_app_len {P : Program} {w : World} {ops : Array Oper} {rest : List Oper} {o : Oper} {a : Act} {Q : Exit → Act → World → Prop} {k : IntKind} (hgd : o.guard = none) (s x : Operand) (t : TypeId)
    (ho : o.op = .call { callee := .builtin .append, args := #[s, x], argTypes := #[t, t] })
    (base : Nat) (e : TypeId) (i : TypeInfo) (z : Value) (bytes : Nat) (ht : P.underlying t = some (.slice e)) (hi : P.info? e = some i) (hz : i.zero = some z)
    (hsize : i.size = 1) (hby : i.bytes = bytes) (hzs : z.cells.size = 1)
    (v : Value) (xs : List Int) (hs : a.eval s = v) (hown : w.ownsRow base e 1 v xs.length (xs.map (.int k)))
    (A : Option Addr) (c m : Nat) (ys : List Int) (hm : ys.length = m) (hx : a.eval x = .slice A m c) (hr : RdI w k A ys)
    (h63 : xs.length + m ≤ maxLen) (hbytes : (xs.length + m) * bytes ≤ 140737488355328) (hbase : base ≤ w.heap.size)
    (h : ∀ v' w', w'.ownsRow base e 1 v' (xs ++ ys).length ((xs ++ ys).map (.int k)) → w.grownBy w' v.ownBlock → (v'.ownBlock = v.ownBlock ∨ v'.ownBlock = some w.heap.size) → wpList P ops Q rest (a.put o.dst v') w') :
    wpList P ops Q (o :: rest) a w := by
  subst hm
  exact wpL_app hgd s x t ho base e i z bytes ht hi hz hsize hby hzs v xs hs hown A c ys hx hr h63 hbytes hbase h
set_option maxHeartbeats 8000000 in
theorem refTag3_any (A B : Option Addr) (c d : Nat) (s l : List Int) (w : World) (hr : RdI w .u8 A s) (hs : RdI w .u8 B l) (hsl : s.length ≤ 800000) (hsc : s.length ≤ c) (hl : l.length ≤ 800000) (hsb : ∀ x ∈ s, 0 ≤ x ∧ x < 256) (hlb : ∀ x ∈ l, 0 ≤ x ∧ x < 256) :
    Calls Try.prog 51 #[.slice A s.length c, .slice B l.length d] w fun e w' => e = .returned (.agg (bv (tagN s l)).toArray) ∧ Below w.heap.size w w' := by
  obtain ⟨i0, hi, hz0, hz1, hz2⟩ := info_parts infoB8
  obtain ⟨K, hK⟩ : ∃ K, keyN s = K := ⟨_, rfl⟩
  have hKl : K.length = 64 := by rw [← hK]; exact keyN_len s
  have hKb : ∀ x ∈ K, 0 ≤ x ∧ x < 256 := by rw [← hK]; exact keyN_byte hsb
  have HTE : Hid (tagN s l = sumN (K.map (xorB · 92) ++ sumN (K.map (xorB · 54) ++ l))) := Lib.hid (by unfold tagN sideN; rw [hK])
  have HKL := Lib.hid hKl
  have HKB := Lib.hid hKb
  have HK := Lib.hid hK
  clear hK hKl hKb
  obtain ⟨w0, hw0, g0, b0, z0⟩ := new_block w (.cells (bv (List.replicate 32 0)).toArray 42)
  go_enter Try.func51, Try.ntmps51
  go_wp2_with fail
  generalize hW0 : World.alloc _ _ = w00
  obtain rfl : w0 = w00 := by rw [← hw0, ← hW0]; kernel_rfl
  clear hw0 hW0
  refine (refKey_any A c s w0 (hr.below b0) hsl hsc hsb).mono ?_
  rintro e w1 ⟨rfl, b1⟩
  rw [HK.out]
  have HG1 := Lib.hid ((b1.block w.heap.size (by omega)).trans g0)
  have HB1 := Lib.hid (bT b0 b1)
  have HS1 := Lib.hid ((hs.below b0).below b1)
  have hz1' : w.heap.size < w1.heap.size := (Array.getElem?_eq_some_iff.1 HG1.out).1
  obtain ⟨w2, hw2, k2, b2, z2⟩ := newRow w1 (bv (List.replicate 64 0)).toArray (bv K).toArray 102
  have HW2 := Lib.hid hw2
  have HG2 := Lib.hid ((b2.block w.heap.size hz1').trans HG1.out)
  have HB2 := Lib.hid (bT HB1.out b2)
  have HS2 := Lib.hid (HS1.out.below b2)
  have HK2 := Lib.hid k2
  have HZ2 := Lib.hid z2
  clear hw2 k2 b0 b1 b2 g0 z0 z2 hr hs
  go_wp2_with (refine wpList_store_row rfl 102 _ _ rfl w1.heap.size (bv K).toArray rfl rfl 102 _ (heap_alloc_new w1 _) ?_ ?_ (all_one (bv_one _)) ?_; (focus (rw [List.size_toArray, bv_len, HKL.out]; exact infoA64)); (focus (show 64 = (bv K).toArray.size; rw [List.size_toArray, bv_len, HKL.out])); generalize hW2 : World.setRow _ _ _ = w22; obtain rfl : w2 = w22 := (by rw [← HW2.out, ← hW2]; kernel_rfl))
  have HI0 : Hid (((w2.alloc (.cells #[] 5)).alloc (.cells #[] 5)).ownsRow w2.heap.size 5 1 (.slice (some ⟨w2.heap.size, 0, none⟩) 0 0) ((K.take 0).map (xorB · 54)).length (((K.take 0).map (xorB · 54)).map (.int .u8))) := Lib.hid (by
    have q := (own_lit0 w2 5 .u8).alloc (.cells #[] 5)
    simpa using q)
  have HU0 : Hid (((w2.alloc (.cells #[] 5)).alloc (.cells #[] 5)).ownsRow w2.heap.size 5 1 (.slice (some ⟨w2.heap.size + 1, 0, none⟩) 0 0) ((K.take 0).map (xorB · 92)).length (((K.take 0).map (xorB · 92)).map (.int .u8))) := Lib.hid (by
    have q := own_base (own_lit0 (w2.alloc (.cells #[] 5)) 5 .u8) (base' := w2.heap.size) (by simp)
    simpa using q)
  have HBZ : Hid (Below w2.heap.size w2 ((w2.alloc (.cells #[] 5)).alloc (.cells #[] 5))) := Lib.hid (bA (bel1 w2 _) _)
  clear HW2
  generalize (w2.alloc (.cells #[] 5)).alloc (.cells #[] 5) = wz at *
  go_loopw [6, 7, 8] (fun v u i wr => ∃ t : Nat, t ≤ 64 ∧ i = .int .i64 (t : Int) ∧ Hid (wr.ownsRow w2.heap.size 5 1 v ((K.take t).map (xorB · 54)).length (((K.take t).map (xorB · 54)).map (.int .u8))) ∧ Hid (wr.ownsRow w2.heap.size 5 1 u ((K.take t).map (xorB · 92)).length (((K.take t).map (xorB · 92)).map (.int .u8))) ∧ Hid (v.ownBlock ≠ u.ownBlock) ∧ Hid (Below w2.heap.size w2 wr)) (fun _ _ i _ => 64 - (intOf i).toNat)
  case atStart => exact ⟨0, Nat.zero_le _, rfl, HI0, HU0, Lib.hid (by simp [Value.ownBlock]), HBZ⟩
  case round =>
    clear HI0 HU0 HBZ
    obtain ⟨t, ht, rfl, HI, HU, HNE, HB⟩ := hrel
    have HSZ := Lib.hid HB.out.size
    by_cases h64 : t < 64
    · have d1 : ((t : Int) < 64) := by omega
      have cv := row_bv (j := t) ((HB.out.block w1.heap.size (by have := HZ2.out; omega)).trans HK2.out) (by rw [HKL.out]; exact h64)
      obtain ⟨x, hx⟩ : ∃ x, K.getD t 0 = x := ⟨_, rfl⟩
      have hxb : 0 ≤ x ∧ x < 256 := HKB.out x (by rw [← hx]; exact getD_mem (by rw [HKL.out]; exact h64))
      have hX : K[t]? = some x := by rw [← hx]; simp [List.getD_eq_getElem?_getD, show t < K.length by rw [HKL.out]; exact h64]
      have HN1 := Lib.hid (map_take_succ (b := 54) hX)
      have HN2 := Lib.hid (map_take_succ (b := 92) hX)
      have A1 := xor8 hxb (show (0 : Int) ≤ 54 ∧ (54 : Int) < 256 by decide)
      have A2 := xor8 hxb (show (0 : Int) ≤ 92 ∧ (92 : Int) < 256 by decide)
      have HL1 : Hid (((K.take t).map (xorB · 54)).length ≤ 64) := Lib.hid (by rw [List.length_map, List.length_take]; omega)
      have HL2 : Hid (((K.take t).map (xorB · 92)).length ≤ 64) := Lib.hid (by rw [List.length_map, List.length_take]; omega)
      rw [hx] at cv
      have HXX := Lib.hid hx
      generalize xorB x 54 = y1 at *
      generalize xorB x 92 = y2 at *
      generalize (K.take t).map (xorB · 54) = D1 at *
      generalize (K.take t).map (xorB · 92) = D2 at *
      clear hx hX hxb
      go_wp2_with (first
        | (at_builtin; refine wpL_app (k := .u8) rfl (.tmp 18) (.tmp 23) 30 rfl w2.heap.size 5 i0 (.int .u8 0) 1 Try.underlying30 hi hz0 hz1 hz2 rfl _ D1 rfl (HI.out.alloc _) _ _ [y1] rfl (RdI.lit1 _ _ _ _) ?_ ?_ ?_ ?_; (focus (have := HL1.out; refine maxLen_ge ?_; simp only [List.length_cons, List.length_nil]; omega)); (focus (have := HL1.out; simp only [List.length_cons, List.length_nil]; omega)); (focus (have := HSZ.out; rw [World.size_alloc]; omega)); intro v3 w3 ho3 hg3 hk3; have hT := two_app (HI.out.alloc _) (HU.out.alloc _) HNE.out hg3 hk3; have HI3 := Lib.hid ho3; rw [HN1.out] at HI3; have HU3 := Lib.hid hT.1; have HNE3 := Lib.hid hT.2; have HB3 := Lib.hid ((HB.out.alloc HSZ.out (.cells #[.int .u8 y1] 5)).grown hg3 (by have := HSZ.out; rw [World.size_alloc]; omega) (own_ge HI.out)); have HSZ3 := Lib.hid HB3.out.size; have cv3 := row_bv (j := t) ((HB3.out.block w1.heap.size (by have := HZ2.out; omega)).trans HK2.out) (by rw [HKL.out]; exact h64); rw [HXX.out] at cv3; clear ho3 hg3 hk3 hT HI HU HNE HB)
        | (at_builtin; refine wpL_app (k := .u8) rfl (.tmp 25) (.tmp 30) 30 rfl w2.heap.size 5 i0 (.int .u8 0) 1 Try.underlying30 hi hz0 hz1 hz2 rfl _ D2 rfl (HU3.out.alloc _) _ _ [y2] rfl (RdI.lit1 _ _ _ _) ?_ ?_ ?_ ?_; (focus (have := HL2.out; refine maxLen_ge ?_; simp only [List.length_cons, List.length_nil]; omega)); (focus (have := HL2.out; simp only [List.length_cons, List.length_nil]; omega)); (focus (have := HSZ3.out; rw [World.size_alloc]; omega)); intro v4 w4 ho4 hg4 hk4; have hT := two_app (HU3.out.alloc _) (HI3.out.alloc _) HNE3.out.symm hg4 hk4; have HU4 := Lib.hid ho4; rw [HN2.out] at HU4; have HI4 := Lib.hid hT.1; have HNE4 := Lib.hid hT.2.symm; have HB4 := Lib.hid ((HB3.out.alloc HSZ3.out (.cells #[.int .u8 y2] 5)).grown hg4 (by have := HSZ3.out; rw [World.size_alloc]; omega) (own_ge HU3.out)); clear ho4 hg4 hk4 hT HI3 HU3 HNE3 HB3))
      go_roundw
      case rel => exact ⟨t + 1, by omega, by go_num, HI4, HU4, HNE4, HB4⟩
      case measure => simp [intOf]; omega
    · obtain rfl : t = 64 := by omega
      have hK64 : K.take 64 = K := List.take_of_length_le (by rw [HKL.out]; exact Nat.le_refl _)
      have hI := HI.out
      have hU := HU.out
      rw [hK64] at hI hU
      obtain ⟨D1, hD1⟩ : ∃ D, K.map (xorB · 54) = D := ⟨_, rfl⟩
      obtain ⟨D2, hD2⟩ : ∃ D, K.map (xorB · 92) = D := ⟨_, rfl⟩
      have hl1 : D1.length = 64 := by rw [← hD1, List.length_map]; exact HKL.out
      have hl2 : D2.length = 64 := by rw [← hD2, List.length_map]; exact HKL.out
      have hb1 : ∀ x ∈ D1, 0 ≤ x ∧ x < 256 := by
        rw [← hD1]; intro x hx; obtain ⟨y, hy, rfl⟩ := List.mem_map.1 hx; exact xorB_byte (HKB.out y hy) (by decide)
      have hb2 : ∀ x ∈ D2, 0 ≤ x ∧ x < 256 := by
        rw [← hD2]; intro x hx; obtain ⟨y, hy, rfl⟩ := List.mem_map.1 hx; exact xorB_byte (HKB.out y hy) (by decide)
      have hte := HTE.out
      rw [hD1, hD2] at hte
      rw [hD1] at hI
      rw [hD2] at hU
      have HT := Lib.hid hte
      have HI1 := Lib.hid hI
      have HU1 := Lib.hid hU
      have HL1 := Lib.hid hl1
      have HL2 := Lib.hid hl2
      have HD1 := Lib.hid hb1
      have HD2 := Lib.hid (show ∀ x ∈ D1 ++ l, 0 ≤ x ∧ x < 256 from fun x hx => (List.mem_append.1 hx).elim (hb1 x) (hlb x))
      have HD3 := Lib.hid hb2
      have HSl := HS2.out.below HB.out
      have HG := Lib.hid ((HB.out.block w.heap.size (by have := HZ2.out; omega)).trans HG2.out)
      have HBW := Lib.hid (bTg HB2.out HB.out (by have := HZ2.out; omega))
      clear hte hI hU hl1 hl2 hb1 hb2 hD1 hD2 hK64 HI HU HTE ht h64 hsb hlb hsl hsc
      simp only [Int.cast_ofNat_Int]
      go_wp2_with (at_builtin; go_loud (refine wpL_app (k := .u8) rfl (.tmp 32) (.tmp 33) 30 rfl w2.heap.size 5 i0 (.int .u8 0) 1 Try.underlying30 hi hz0 hz1 hz2 rfl _ D1 rfl HI1.out _ _ l rfl HSl ?_ ?_ ?_ ?_; (focus (have := HL1.out; exact maxLen_ge (by omega))); (focus (have := HL1.out; omega)); (focus (have := HSZ.out; omega)); intro v5 w5 ho5 hg5 hk5; have hT := two_app HI1.out HU1.out HNE.out hg5 hk5; have HI5 := Lib.hid ho5; have HU5 := Lib.hid hT.1; have HNE5 := Lib.hid hT.2; have HB5 := Lib.hid (HB.out.grown hg5 (by have := HSZ.out; omega) (own_ge HI1.out)); clear ho5 hg5 hk5 hT HI1 HU1 HNE HB HSl))
      obtain ⟨A5, c5, rfl, hc5, _⟩ := own_slice HI5.out
      have hr5 := RdI.of_own HI5.out
      refine (refSum_any A5 c5 (D1 ++ l) w5 hr5 (by rw [List.length_append, HL1.out]; omega) HD2.out).mono ?_
      rintro e w6 ⟨rfl, hb6⟩
      obtain ⟨S, hS⟩ : ∃ S, sumN (D1 ++ l) = S := ⟨_, rfl⟩
      have hSl : S.length = 32 := by rw [← hS]; exact sumN_len _
      have hSb : ∀ x ∈ S, 0 ≤ x ∧ x < 256 := by rw [← hS]; exact sumN_byte _
      have hT := HT.out
      rw [hS] at hT ⊢
      have HT := Lib.hid hT
      have HS := Lib.hid hSl
      have HSB := Lib.hid hSb
      have hz5 := HB5.out.size
      have HU6 := Lib.hid (own_below HU5.out hb6)
      have HB6 := Lib.hid (bTg HB5.out hb6 hz5)
      obtain ⟨w7, hw7, g7, hb7, hz7⟩ := newRow w6 (bv (List.replicate 32 0)).toArray (bv S).toArray 42
      have HU7 := Lib.hid (own_below HU6.out hb7)
      have HB7 := Lib.hid (bTg HB6.out hb7 (by have := HB6.out.size; omega))
      have HR7 := Lib.hid (rd_row g7)
      have HW7 := Lib.hid hw7
      have HSZ7 := Lib.hid HB7.out.size
      clear hS hSl hSb hT hb6 hw7 g7 hb7 hz7 hz5 hr5 HB5 HU5 HNE5
      go_wp2_with (first | (refine wpList_store_row rfl 42 _ _ rfl w6.heap.size (bv S).toArray rfl rfl 42 _ (heap_alloc_new w6 _) ?_ ?_ (all_one (bv_one _)) ?_; (focus (rw [List.size_toArray, bv_len, HS.out]; exact info32)); (focus (show 32 = (bv S).toArray.size; rw [List.size_toArray, bv_len, HS.out])); generalize hW3 : World.setRow _ _ _ = w33; obtain rfl : w7 = w33 := (by rw [← HW7.out, ← hW3]; kernel_rfl)) | (at_builtin; go_loud (refine wpL_app_len (k := .u8) rfl (.tmp 36) (.tmp 37) 30 rfl w2.heap.size 5 i0 (.int .u8 0) 1 Try.underlying30 hi hz0 hz1 hz2 rfl _ D2 rfl HU7.out _ _ 32 S HS.out rfl HR7.out ?_ ?_ ?_ ?_; (focus (have := HL2.out; exact maxLen_ge (by omega))); (focus (have := HL2.out; omega)); (focus (have := HSZ7.out; omega)); intro v8 w8 ho8 hg8 hk8; have HU8 := Lib.hid ho8; have HB8 := Lib.hid (HB7.out.grown hg8 (by have := HSZ7.out; omega) (own_ge HU7.out)); clear ho8 hg8 hk8)))
      obtain ⟨A8, c8, rfl, hc8, _⟩ := own_slice HU8.out
      have hr8 := RdI.of_own HU8.out
      refine (refSum_any A8 c8 (D2 ++ S) w8 hr8 (by rw [List.length_append, HL2.out, HS.out]; decide) (fun x hx => (List.mem_append.1 hx).elim (HD3.out x) (HSB.out x))).mono ?_
      rintro e w9 ⟨rfl, hb9⟩
      obtain ⟨T, hT⟩ : ∃ T, sumN (D2 ++ S) = T := ⟨_, rfl⟩
      have hTl : T.length = 32 := by rw [← hT]; exact sumN_len _
      have hTE : tagN s l = T := by rw [HT.out, hT]
      have HTL := Lib.hid hTl
      have HTF := Lib.hid hTE
      rw [hT]
      have hz8 := HB8.out.size
      have HB9 := Lib.hid (bTg HB8.out hb9 hz8)
      have HG9 := Lib.hid ((HB9.out.block w.heap.size (by have := HZ2.out; omega)).trans HG2.out)
      have HBE := Lib.hid (bTg HB2.out HB9.out (by have := HZ2.out; omega))
      clear hT hTl hTE hb9 hz8 hr8
      go_wp2_with (refine wpList_store_row rfl 42 (.tmp 4) _ rfl w.heap.size (bv T).toArray rfl rfl 42 _ HG9.out ?_ ?_ (all_one (bv_one _)) ?_; (focus (rw [List.size_toArray, bv_len, HTL.out]; exact info32)); (focus (rw [List.size_toArray, bv_len, List.size_toArray, bv_len, HTL.out]; rfl)))
      refine bodyPost_ret (v := .agg (bv T).toArray) (results_cell_row rfl _ _ w.heap.size 42 (bv T).toArray (0, 0) _ rfl (setRow_heap _ _ _ _ _ _ HG9.out) Try.underlying42 rfl (by rw [List.size_toArray, bv_len, HTL.out]; exact info32)) rfl ⟨by rw [← HTF.out], setRow_below HBE.out (Nat.le_refl _)⟩
end Go.Proofs.Ytachkhjbckapoaa

namespace Go.Proofs.Ytachkhjbckapoaa
open Go.RowKit
set_option linter.unusedVariables false
set_option maxRecDepth 100000
set_option linter.unusedSimpArgs false

/-- How many ones, as the library counts them. -/
def popE (x : Int) : Int :=
  let a := IntKind.u64.wrap (bits .and .u64 (x / 2) 6148914691236517205 + bits .and .u64 x 6148914691236517205)
  let b := IntKind.u64.wrap (bits .and .u64 (a / 4) 3689348814741910323 + bits .and .u64 a 3689348814741910323)
  let c := bits .and .u64 (IntKind.u64.wrap (b / 16 + b)) 1085102592571150095
  let d := IntKind.u64.wrap (c + c / 256)
  let e := IntKind.u64.wrap (d + d / 65536)
  let f := IntKind.u64.wrap (e + e / 4294967296)
  bits .and .i64 (wrap64 f) 127
theorem ones64_any (x : Int) (w : World) : Calls Try.prog 162 #[.int .u64 x] w fun e w' => e = .returned (.int .i64 (popE x)) ∧ w = w' := by
  go_enter Try.func162, Try.ntmps162
  go_wp2
  generalize hv : bits BinOp.and IntKind.i64 _ 127 = v
  obtain rfl : popE x = v := hv
  go_ret
  exact ⟨rfl, rfl⟩
theorem ones_any (x : Int) (w : World) : Calls Try.prog 158 #[.int .u64 x] w fun e w' => e = .returned (.int .i64 (popE x)) ∧ w = w' := by
  go_enter Try.func158, Try.ntmps158
  go_wp2_with (go_at_call 162; (with_reducible refine (ones64_any _ _).mono ?_); rintro e w' ⟨rfl, rfl⟩)
  go_ret
  exact ⟨rfl, rfl⟩
/-- How many ones a number below 32 has, even or odd. -/
def oddB (x : Int) : Bool := x % 2 + x / 2 % 2 + x / 4 % 2 + x / 8 % 2 + x / 16 % 2 == 1 || x % 2 + x / 2 % 2 + x / 4 % 2 + x / 8 % 2 + x / 16 % 2 == 3 || x % 2 + x / 2 % 2 + x / 4 % 2 + x / 8 % 2 + x / 16 % 2 == 5
theorem below32 {P : Int → Prop} (h : ∀ n : Fin 32, P ((n.val : Nat) : Int)) {x : Int} (h0 : 0 ≤ x) (h1 : x ≤ 31) : P x := by
  obtain ⟨n, rfl⟩ := Int.eq_ofNat_of_zero_le h0
  exact h ⟨n, by omega⟩
theorem pop_odd {x : Int} (h0 : 0 ≤ x) (h1 : x ≤ 31) : bits .and .i64 (popE x) 1 = if oddB x then 1 else 0 := by
  refine below32 (P := fun x => bits .and .i64 (popE x) 1 = if oddB x then 1 else 0) ?_ h0 h1
  decide +kernel
theorem pwithin_any (n m : Int) (w : World) : Calls Try.prog 141 #[.int .i64 n, .int .i64 m] w fun e w' => e = .returned (.bool (decide (0 ≤ n) && decide (n ≤ m))) ∧ w = w' := by
  by_cases h : 0 ≤ n
  · go_enter Try.func141, Try.ntmps141
    go_wp2
    go_ret
    exact ⟨by simp [h], rfl⟩
  · go_enter Try.func141, Try.ntmps141
    go_wp2
    go_ret
    exact ⟨by rw [show decide (0 ≤ n) = false by simpa using h] <;> rfl, rfl⟩
/-- A value's character. -/
def chr (v : Int) : Int := if oddB v then v else v + 16
/-- What a character says. -/
def chV (c : Int) : Int × Int := if oddB c then (c % 16, 0) else (0, 3)
theorem chr_odd {v : Int} (h0 : 0 ≤ v) (h1 : v ≤ 15) : oddB (chr v) = true ∧ 0 ≤ chr v ∧ chr v ≤ 31 ∧ chr v % 16 = v := by
  refine below32 (P := fun v => v ≤ 15 → oddB (chr v) = true ∧ 0 ≤ chr v ∧ chr v ≤ 31 ∧ chr v % 16 = v) ?_ h0 (by omega) h1
  decide +kernel
theorem chr_val {c : Int} (h0 : 0 ≤ c) (h1 : c ≤ 31) (h : oddB c = true) : chr (c % 16) = c := by
  refine below32 (P := fun c => oddB c = true → chr (c % 16) = c) ?_ h0 h1 h
  decide +kernel
theorem chr_or {v : Int} (h0 : 0 ≤ v) (h1 : v ≤ 15) : bits .or .i64 v (wrap64 (bits .and .i64 (bits .xor .i64 (-1) (popE v)) 1 * 16)) = chr v := by
  refine below32 (P := fun v => v ≤ 15 → bits .or .i64 v (wrap64 (bits .and .i64 (bits .xor .i64 (-1) (popE v)) 1 * 16)) = chr v) ?_ h0 (by omega) h1
  decide +kernel
theorem char_any (v : Int) (w : World) (h0 : 0 ≤ v) (h1 : v ≤ 15) : Calls Try.prog 142 #[.int .i64 v] w fun e w' => e = .returned (.tuple #[.int .i64 (chr v), .int .i64 0]) ∧ w = w' := by
  have hW := pwithin_any v 15 w
  rw [show (decide (0 ≤ v) && decide (v ≤ 15)) = true by simp [h0, h1]] at hW
  have hw : IntKind.u64.wrap v = v := by rw [IntKind.wrap_u64]; omega
  have hO := ones_any v w
  have hs : IntKind.i64.signed = true := rfl
  have HE := Lib.hid (chr_or h0 h1)
  go_enter Try.func142, Try.ntmps142
  go_wp2_with (first | (go_at_call 141; (with_reducible refine hW.mono ?_); rintro e w' ⟨rfl, rfl⟩) | (go_at_call 158; (try rw [hw]); (refine hO.mono ?_); rintro e w' ⟨rfl, rfl⟩))
  go_ret2
  exact ⟨by rw [← HE.out] <;> rfl, rfl⟩
theorem and15 {c : Int} (h0 : 0 ≤ c) (h1 : c ≤ 31) : bits .and .i64 c 15 = c % 16 := by
  refine below32 (P := fun c => bits .and .i64 c 15 = c % 16) ?_ h0 h1
  decide +kernel
theorem pvalue_any (c : Int) (w : World) (h0 : 0 ≤ c) (h1 : c ≤ 31) : Calls Try.prog 159 #[.int .i64 c] w fun e w' => e = .returned (.tuple #[.int .i64 (chV c).1, .int .i64 (chV c).2]) ∧ w = w' := by
  have hW := pwithin_any c 31 w
  rw [show (decide (0 ≤ c) && decide (c ≤ 31)) = true by simp [h0, h1]] at hW
  have hw : IntKind.u64.wrap c = c := by rw [IntKind.wrap_u64]; omega
  have hO := ones_any c w
  have hp := pop_odd h0 h1
  have H15 := Lib.hid (and15 h0 h1)
  cases ho : oddB c with
  | true =>
    rw [ho, if_pos rfl] at hp
    have HV := Lib.hid (show chV c = (c % 16, 0) by unfold chV; rw [if_pos ho])
    go_enter Try.func159, Try.ntmps159
    go_wp2_with (first | (go_at_call 141; (with_reducible refine hW.mono ?_); rintro e w' ⟨rfl, rfl⟩) | (go_at_call 158; (try rw [hw]); (refine hO.mono ?_); rintro e w' ⟨rfl, rfl⟩))
    go_ret2
    exact ⟨by rw [HV.out, ← H15.out] <;> rfl, rfl⟩
  | false =>
    rw [ho, if_neg (by simp)] at hp
    have HV := Lib.hid (show chV c = (0, 3) by unfold chV; rw [if_neg (by simp [ho])])
    go_enter Try.func159, Try.ntmps159
    go_wp2_with (first | (go_at_call 141; (with_reducible refine hW.mono ?_); rintro e w' ⟨rfl, rfl⟩) | (go_at_call 158; (try rw [hw]); (refine hO.mono ?_); rintro e w' ⟨rfl, rfl⟩))
    go_ret2
    exact ⟨by rw [HV.out] <;> rfl, rfl⟩
end Go.Proofs.Ytachkhjbckapoaa

namespace Go.Proofs.Ytachkhjbckapoaa
open Go.RowKit
set_option linter.unusedVariables false
set_option maxRecDepth 100000

/-- What an outermost loop's record is. -/
def recOf (fn : FuncId) (a : Act) (ps : Array Tmp) (assign body : Code) (D : Nat) (st : LoopState) (pe : Option Code) : Loop :=
  { state := st, pending := pe, fn, tmps := a.tmps, params := ps, assign, body, defers := D }

/-- Behind the iterator: the loop's record is shut, and the pending jump, if any, is taken up. -/
def behind (P : Program) (n : Nat) (Q : Exit → Act → World → Prop) (a' : Act) (l : Nat) (r : Option Code → Loop) (W : World) : Option Code → Prop
  | none => Q .normal a' (W.putObj l (.loop { r none with state := .exhausted }))
  | some j => j.wpIn Fence.wide n P Q a' (W.putObj l (.loop { r (some j) with state := .exhausted }))

theorem my_range {P : Program} {n : Nat} {g : Operand} {ps : Array Tmp} {assign body : Code} {Q : Exit → Act → World → Prop} {a : Act} {w : World} {gf : Nat} {lb : Array Value}
    (hg : a.eval g = .func (.func gf) #[] lb) (eg : ∀ args w, (callFunc gf args).run P w = .ok (.enter gf args) w)
    (h : ∀ fn, CallsIn Fence.wide (n - 1) P gf (#[.func (.yield (w.heap.size + 1)) #[] #[]] ++ lb) ((w.alloc (.deferred (some []))).alloc (.loop (recOf fn a ps assign body w.heap.size .ready none)))
      fun e W' => ∃ v c, e = .returned v ∧ W'.heap[w.heap.size + 1]? = some (.loop (recOf fn a ps assign body w.heap.size (if c.isNone then .ready else .done) c)) ∧
        behind P n Q { a with defers := { target := .collected w.heap.size, args := #[] } :: a.defers } (w.heap.size + 1) (fun c => recOf fn a ps assign body w.heap.size (if c.isNone then .ready else .done) c) W' c) :
    (Code.rangeFunc g ps assign body).wpIn Fence.wide n P Q a w := by
  refine wpIn_rangeFunc ?_
  intro fn _
  obtain ⟨W1, hW1⟩ : ∃ W1, (w.alloc (.deferred (some []))).alloc (.loop (recOf fn a ps assign body w.heap.size .ready none)) = W1 := ⟨_, rfl⟩
  refine ⟨w.heap.size + 1, [{ target := .collected w.heap.size, args := #[] }], W1, { target := .fn (.func gf) lb, args := #[.func (.yield (w.heap.size + 1)) #[] #[]] }, W1, gf,
    #[.func (.yield (w.heap.size + 1)) #[] #[]] ++ lb, W1, ?_, ?_, ?_, ?_, (fun hd => by cases hd), ?_⟩
  · rw [← hW1]; exact run_enterLoop_outer _ _ _ _ _
  · simp only [resolve, hg]
    simp [go_sem]
  · intro f' _; trivial
  · simp [invoke, go_sem, eg]
  · rw [← hW1]
    refine (h fn).mono ?_
    rintro e W' ⟨v, c, rfl, hl, hb⟩
    have hne : (recOf fn a ps assign body w.heap.size (if c.isNone then .ready else .done) c).state ≠ .busy := by cases c <;> simp [recOf]
    refine ⟨c, _, by have := run_endLoop (P := P) hl hne; simpa [recOf] using this, ?_⟩
    cases c with
    | none => exact hb
    | some j => exact hb

theorem my_round {P : Program} {F : Fence} {m l : Nat} {r : Loop} {W : World} {args : Array Value} {R : Ending → World → Prop} {a₁ : Act} (hF : F.fn r.fn)
    (hl : W.heap[l]? = some (.loop r)) (hr : r.state = .ready) (hs : args.size = r.params.size)
    (hA : ∀ K : Act → World → Prop, K a₁ W → r.assign.wpIn (F.inRound l) m P (Exit.then K (fun _ _ _ => False)) { tmps := (r.params.zip args).foldl (fun t (p, v) => t.setIfInBounds p v) r.tmps, defers := [] } W)
    (hB : r.body.wpIn (F.inRound l) m P (roundPost P l R) a₁ (W.putObj l (.loop { r with state := .busy }))) :
    YieldAt F m P l args W R :=
  ⟨r.fn, _, r.assign, r.body, run_yield hl hs, roundIn_of_wpIn hF (hA _ ⟨_, run_beginRound hl hr, hB⟩)⟩
/-- How a round of mine may be left. -/
def roundK (B : Nat) (Kp : World → World → Prop) (I : Nat → World → Prop) (Ix : World → Prop) (k : Nat) (W : World) : Exit → Act → World → Prop
  | .normal, _, W' => KeepsFrom B W W' ∧ Kp W W' ∧ I k W'
  | .ret, _, W' => KeepsFrom B W W' ∧ Ix W'
  | .exit _, _, _ => False
  | .goto _, _, _ => False
  | .panic _, _, _ => False
  | .outgrown, _, _ => False

/-- THE LAW FOR MY LOOPS: the rounds are counted; the iterator may hold state in cells of its own (Kp: what a round keeps of it); what it owes is said of any J that speaks of my I and of blocks that are no cells. -/
theorem my_seq {P : Program} {n : Nat} {g : Operand} {ps : Array Tmp} {assign body : Code} {Q : Exit → Act → World → Prop} {a : Act} {w : World} {gf : Nat} {lb : Array Value}
    (hg : a.eval g = .func (.func gf) #[] lb) (eg : ∀ args w, (callFunc gf args).run P w = .ok (.enter gf args) w) (N : Nat)
    (Kp : World → World → Prop) (hKt : ∀ {A B C : World}, Kp A B → Kp B C → Kp A C) (hKb : ∀ (W : World) (l : Nat) (o o' : Obj), w.heap.size ≤ l → W.heap[l]? = some o → o.isCells = false → Kp W (W.putObj l o'))
    (I : Nat → World → Prop) (Ix : World → Prop) (hI : OwnFrom w.heap.size I) (hIx : OwnFrom w.heap.size (fun (_ : Unit) => Ix)) (h0 : I 0 w)
    (hseq : ∀ (L : Nat) (J : Nat → World → Prop) (Jx : World → Prop) (W1 : World), (∀ k W, J k W → I k W) → (∀ k W p v, J k W → I k (W.setCell p v) → J k (W.setCell p v)) →
      (∀ (k : Nat) (args : Array Value) (W : World), args.size = ps.size → J k W → (∃ a₁ : Act, (∀ (W : World) (K : Act → World → Prop), K a₁ W → assign.wpIn (Fence.wide.inRound L) (n - 1 - 1) P (Exit.then K (fun _ _ _ => False)) { tmps := (ps.zip args).foldl (fun t (p, v) => t.setIfInBounds p v) a.tmps, defers := [] } W) ∧
          ∀ Wb, I k Wb → Kp W Wb → body.wpIn (Fence.wide.inRound L) (n - 1 - 1) P (roundK w.heap.size Kp I Ix (k + 1) Wb) a₁ Wb) →
        YieldAt Fence.wide (n - 1 - 1) P L args W fun e W' => (e = .returned (.bool true) ∧ J (k + 1) W' ∧ Kp W W') ∨ (e = .returned (.bool false) ∧ Jx W')) →
      J 0 W1 → Below w.heap.size w W1 → CallsIn Fence.wide (n - 1) P gf (#[.func (.yield L) #[] #[]] ++ lb) W1 fun e W' => (∃ v, e = .returned v) ∧ (J N W' ∨ Jx W'))
    (hdone : ∀ (D : Nat) (W : World), w.heap.size ≤ D → I N W → W.heap[D]? = some (.deferred (some [])) → Q .normal { a with defers := { target := .collected D, args := #[] } :: a.defers } W)
    (hstop : ∀ (D : Nat) (W : World), w.heap.size ≤ D → Ix W → W.heap[D]? = some (.deferred (some [])) → Code.ret.wpIn Fence.wide n P Q { a with defers := { target := .collected D, args := #[] } :: a.defers } W) :
    (Code.rangeFunc g ps assign body).wpIn Fence.wide n P Q a w := by
  refine my_range hg eg ?_
  intro fn
  obtain ⟨rec, hrec⟩ : ∃ rec : LoopState → Option Code → Loop, rec = fun st pe => recOf fn a ps assign body w.heap.size st pe := ⟨_, rfl⟩
  obtain ⟨W1, hW1⟩ : ∃ W1, (w.alloc (.deferred (some []))).alloc (.loop (rec .ready none)) = W1 := ⟨_, rfl⟩
  have hL1 : W1.heap[w.heap.size + 1]? = some (.loop (rec .ready none)) := by
    rw [← hW1]; have := World.alloc_heap_new (w.alloc (.deferred (some []))) (.loop (rec .ready none)); rwa [World.size_alloc] at this
  have hK1 : W1.heap[w.heap.size]? = some (.deferred (some [])) := by
    rw [← hW1]; exact (Below.heap_alloc _ _ _ (by simp)).trans (World.alloc_heap_new w _)
  have hI1 : I 0 W1 := by rw [← hW1]; exact hI.alloc _ (hI.alloc _ h0)
  have hb1 : Below w.heap.size w W1 := by
    rw [← hW1]; exact ((Below.refl _ w).alloc (Nat.le_refl _) _).alloc (by simp) _
  have e1 : (w.alloc (.deferred (some []))).alloc (.loop (recOf fn a ps assign body w.heap.size .ready none)) = W1 := by rw [← hW1, hrec]
  rw [e1]
  refine (hseq (w.heap.size + 1)
    (fun k W => I k W ∧ W.heap[w.heap.size + 1]? = some (.loop (rec .ready none)) ∧ W.heap[w.heap.size]? = some (.deferred (some [])))
    (fun W => Ix W ∧ W.heap[w.heap.size + 1]? = some (.loop (rec .done (some .ret))) ∧ W.heap[w.heap.size]? = some (.deferred (some [])))
    W1 (fun k W h => h.1) ?_ ?_ ⟨hI1, hL1, hK1⟩ hb1).mono ?_
  · rintro k W p v ⟨_, hl, hk⟩ hi
    exact ⟨hi, (KeepsOthers.setCell W p v).same _ _ hl rfl, (KeepsOthers.setCell W p v).same _ _ hk rfl⟩
  · rintro k args W hs ⟨hi, hl, hk⟩ ⟨a₁, hA, hB⟩
    have hlt : w.heap.size + 1 < W.heap.size := (Array.getElem?_eq_some_iff.1 hl).1
    have hl' := hl
    rw [hrec] at hl'
    refine my_round (a₁ := a₁) trivial hl' rfl hs (fun K hK => hA W K hK) ?_
    have ebusy : (Obj.loop { recOf fn a ps assign body w.heap.size .ready none with state := .busy }) = .loop { rec .ready none with state := .busy } := by rw [hrec]
    rw [ebusy]
    have hl2 : (W.putObj (w.heap.size + 1) (.loop { rec .ready none with state := .busy })).heap[w.heap.size + 1]? = some (.loop { rec .ready none with state := .busy }) := World.putObj_heap_same hlt
    have hk2 : (W.putObj (w.heap.size + 1) (.loop { rec .ready none with state := .busy })).heap[w.heap.size]? = some (.deferred (some [])) := (World.putObj_heap_other (by omega)).trans hk
    have hw2 : Kp W (W.putObj (w.heap.size + 1) (.loop { rec .ready none with state := .busy })) := hKb _ _ _ _ (by omega) hl rfl
    refine wpIn_mono (hB _ (hI.putObj _ hi (by omega) hl rfl) hw2) ?_
    have fin : ∀ (jump : Option Code) (W3 : World), KeepsFrom w.heap.size (W.putObj (w.heap.size + 1) (.loop { rec .ready none with state := .busy })) W3 →
        (Instr.endRound (w.heap.size + 1) jump).run P W3 = .ok (.bool jump.isNone) (W3.putObj (w.heap.size + 1) (.loop (rec (if jump.isNone then .ready else .done) jump))) ∧
        W3.heap[w.heap.size + 1]? = some (.loop { rec .ready none with state := .busy }) ∧
        (W3.putObj (w.heap.size + 1) (.loop (rec (if jump.isNone then .ready else .done) jump))).heap[w.heap.size + 1]? = some (.loop (rec (if jump.isNone then .ready else .done) jump)) ∧
        (W3.putObj (w.heap.size + 1) (.loop (rec (if jump.isNone then .ready else .done) jump))).heap[w.heap.size]? = some (.deferred (some [])) := fun jump W3 hk3 => by
      have hl3 := hk3.same _ _ (by omega) hl2 rfl
      have := run_endRound (P := P) jump hl3
      rw [hrec] at this ⊢
      exact ⟨this, by rw [hrec] at hl3; exact hl3, World.putObj_heap_same (Array.getElem?_eq_some_iff.1 hl3).1, (World.putObj_heap_other (by omega)).trans (hk3.same _ _ (Nat.le_refl _) hk2 rfl)⟩
    rintro e a3 W3 hp
    cases e with
    | normal =>
      obtain ⟨hk3, hkp3, hi3⟩ := hp
      obtain ⟨hr, hl3, hl4, hk4⟩ := fin none W3 hk3
      exact ⟨_, _, hr, .inl ⟨rfl, ⟨hI.putObj _ hi3 (by omega) hl3 rfl, hl4, hk4⟩, hKt (hKt hw2 hkp3) (hKb _ _ _ _ (by omega) hl3 rfl)⟩⟩
    | ret =>
      obtain ⟨hk3, hi3⟩ := hp
      obtain ⟨hr, hl3, hl4, hk4⟩ := fin (some .ret) W3 hk3
      exact ⟨_, _, hr, .inr ⟨rfl, hIx.putObj (s := ()) _ hi3 (by omega) hl3 rfl, hl4, hk4⟩⟩
    | exit id => exact hp.elim
    | goto t => exact hp.elim
    | panic ch => exact hp.elim
    | outgrown => exact hp.elim
  · rintro e W2 ⟨⟨v, rfl⟩, (⟨hi, hl, hk⟩ | ⟨hi, hl, hk⟩)⟩
    · refine ⟨v, none, rfl, by rw [hrec] at hl; exact hl, ?_⟩
      exact hdone _ _ (Nat.le_refl _) (hI.putObj _ hi (by omega) hl rfl) ((World.putObj_heap_other (by omega)).trans hk)
    · refine ⟨v, some .ret, rfl, by rw [hrec] at hl; exact hl, ?_⟩
      exact hstop _ _ (Nat.le_refl _) (hIx.putObj (s := ()) _ hi (by omega) hl rfl) ((World.putObj_heap_other (by omega)).trans hk)
theorem loadVar_plain {P : Program} {t : TypeId} {d : TypeDesc} (hu : P.underlying t = some d) (hd : (match d with | .struct _ | .array _ _ => true | _ => false) = false) {w : World} {p : Addr} {v : Value} (hc : w.cell? p = some v) : (loadVar t p).run P w = .ok v w := by
  unfold loadVar
  rw [Sem.run_bind, run_isAgg_plain hu hd]
  simp only [Result.andThen, Bool.false_eq_true, if_false]
  rw [run_load, hc]
theorem results_cell2 {P : Program} {fn : Func} {t u : Tmp} {T U : TypeId} (h : fn.results = #[.cell t T, .cell u U]) {dT dU : TypeDesc} (hT : P.underlying T = some dT) (hU : P.underlying U = some dU)
    (pT : (match dT with | .struct _ | .array _ _ => true | _ => false) = false) (pU : (match dU with | .struct _ | .array _ _ => true | _ => false) = false)
    {tmps : Array Value} {p q : Addr} (hp : tmps.getD t undef = .pointer (some p)) (hq : tmps.getD u undef = .pointer (some q)) {w : World} {v1 v2 : Value} (h1 : w.cell? p = some v1) (h2 : w.cell? q = some v2) :
    (results fn tmps).run P w = .ok (.tuple #[v1, v2]) w := by
  simp only [results, h, Array.mapM_eq_mapM_toList, List.mapM_cons, List.mapM_nil]
  simp [Sem.run_bind, hp, hq, asAddr, loadVar_plain hT pT h1, loadVar_plain hU pU h2, Result.andThen]
end Go.Proofs.Ytachkhjbckapoaa

namespace Go.Proofs.Ytachkhjbckapoaa
open Go.RowKit
set_option linter.unusedVariables false
set_option maxRecDepth 100000
set_option linter.unusedSimpArgs false

/-- A key: its number, its secret, its days. -/
structure Ky where
  id : Int
  sec : List Int
  fr : Int
  til : Int
def rightB (k : Ky) : Bool := wB k.id 0 99 && (decide (1 ≤ k.sec.length) && decide (k.sec.length ≤ 64)) && (decide (0 ≤ k.fr) && decide (k.fr ≤ k.til) && decide (k.til ≤ 99999))
/-- A ring: right keys, each of a greater number than the one ahead of it. -/
def ringGo : Int → List Ky → Bool
  | _, [] => true
  | last, k :: t => rightB k && decide (last < k.id) && ringGo k.id t
def ringB (l : List Ky) : Bool := ringGo (-1) l

theorem right_any (B : Option Addr) (n c : Nat) (k : Ky) (hn : k.sec.length = n) (w : World) :
    Calls Try.prog 71 #[.agg #[.int .i64 k.id, .slice B n c, .int .i64 k.fr, .int .i64 k.til]] w fun e w' => e = .returned (.bool (rightB k)) ∧ Below w.heap.size w w' := by
  subst hn
  obtain ⟨id, sec, fr, til⟩ := k
  show Calls _ _ #[.agg #[.int .i64 id, .slice B sec.length c, .int .i64 fr, .int .i64 til]] _ _
  by_cases h1 : 0 ≤ id
  rotate_left
  · have E := Lib.hid (show rightB ⟨id, sec, fr, til⟩ = false by unfold rightB; rw [wB_no (.inl (by simp; omega))]; rfl)
    go_enter Try.func71, Try.ntmps71
    go_wp2
    go_ret
    exact ⟨by rw [E.out] <;> rfl, (by repeat (first | (with_reducible exact bR _) | (with_reducible refine bT ?_ (by assumption)) | (with_reducible apply bA) | (with_reducible apply bD) | (with_reducible apply bN) | (with_reducible refine bS ?_ (by first | omega | (simp; done) | (simp; omega)))))⟩
  by_cases h2 : id < 100
  rotate_left
  · have E := Lib.hid (show rightB ⟨id, sec, fr, til⟩ = false by unfold rightB; rw [wB_no (.inr (by simp; omega))]; rfl)
    go_enter Try.func71, Try.ntmps71
    go_wp2
    go_ret
    exact ⟨by rw [E.out] <;> rfl, (by repeat (first | (with_reducible exact bR _) | (with_reducible refine bT ?_ (by assumption)) | (with_reducible apply bA) | (with_reducible apply bD) | (with_reducible apply bN) | (with_reducible refine bS ?_ (by first | omega | (simp; done) | (simp; omega)))))⟩
  have E1 := wB_mk (n := id) (a := 0) (b := 99) h1 (by omega)
  by_cases h3 : 1 ≤ sec.length
  rotate_left
  · have E := Lib.hid (show rightB ⟨id, sec, fr, til⟩ = false by simp [rightB, h3])
    have h3' : ¬ (1 : Int) ≤ (sec.length : Int) := by omega
    go_enter Try.func71, Try.ntmps71
    go_wp2
    go_ret
    exact ⟨by rw [E.out] <;> rfl, (by repeat (first | (with_reducible exact bR _) | (with_reducible refine bT ?_ (by assumption)) | (with_reducible apply bA) | (with_reducible apply bD) | (with_reducible apply bN) | (with_reducible refine bS ?_ (by first | omega | (simp; done) | (simp; omega)))))⟩
  have h3' : (1 : Int) ≤ (sec.length : Int) := by omega
  by_cases h4 : sec.length ≤ 64
  rotate_left
  · have E := Lib.hid (show rightB ⟨id, sec, fr, til⟩ = false by simp [rightB, h4])
    have h4' : ¬ (sec.length : Int) ≤ 64 := by omega
    go_enter Try.func71, Try.ntmps71
    go_wp2
    go_ret
    exact ⟨by rw [E.out] <;> rfl, (by repeat (first | (with_reducible exact bR _) | (with_reducible refine bT ?_ (by assumption)) | (with_reducible apply bA) | (with_reducible apply bD) | (with_reducible apply bN) | (with_reducible refine bS ?_ (by first | omega | (simp; done) | (simp; omega)))))⟩
  have h4' : (sec.length : Int) ≤ 64 := by omega
  by_cases h5 : 0 ≤ fr
  rotate_left
  · have E := Lib.hid (show rightB ⟨id, sec, fr, til⟩ = false by simp [rightB, h5])
    go_enter Try.func71, Try.ntmps71
    go_wp2
    go_ret
    exact ⟨by rw [E.out] <;> rfl, (by repeat (first | (with_reducible exact bR _) | (with_reducible refine bT ?_ (by assumption)) | (with_reducible apply bA) | (with_reducible apply bD) | (with_reducible apply bN) | (with_reducible refine bS ?_ (by first | omega | (simp; done) | (simp; omega)))))⟩
  by_cases h6 : fr ≤ til
  rotate_left
  · have E := Lib.hid (show rightB ⟨id, sec, fr, til⟩ = false by simp [rightB, h6])
    go_enter Try.func71, Try.ntmps71
    go_wp2
    go_ret
    exact ⟨by rw [E.out] <;> rfl, (by repeat (first | (with_reducible exact bR _) | (with_reducible refine bT ?_ (by assumption)) | (with_reducible apply bA) | (with_reducible apply bD) | (with_reducible apply bN) | (with_reducible refine bS ?_ (by first | omega | (simp; done) | (simp; omega)))))⟩
  by_cases h7 : til ≤ 99999
  rotate_left
  · have E := Lib.hid (show rightB ⟨id, sec, fr, til⟩ = false by simp [rightB, h7])
    go_enter Try.func71, Try.ntmps71
    go_wp2
    go_ret
    exact ⟨by rw [E.out] <;> rfl, (by repeat (first | (with_reducible exact bR _) | (with_reducible refine bT ?_ (by assumption)) | (with_reducible apply bA) | (with_reducible apply bD) | (with_reducible apply bN) | (with_reducible refine bS ?_ (by first | omega | (simp; done) | (simp; omega)))))⟩
  have E := Lib.hid (show rightB ⟨id, sec, fr, til⟩ = true by simp only [rightB, E1, h3, h4, h5, h6, h7, decide_true, Bool.and_true])
  go_enter Try.func71, Try.ntmps71
  go_wp2
  go_ret
  exact ⟨by rw [E.out] <;> rfl, (by repeat (first | (with_reducible exact bR _) | (with_reducible refine bT ?_ (by assumption)) | (with_reducible apply bA) | (with_reducible apply bD) | (with_reducible apply bN) | (with_reducible refine bS ?_ (by first | omega | (simp; done) | (simp; omega)))))⟩
end Go.Proofs.Ytachkhjbckapoaa

namespace Go.Proofs.Ytachkhjbckapoaa
open Go.RowKit Go.Shelf
set_option linter.unusedVariables false
set_option maxRecDepth 100000
set_option linter.unusedSimpArgs false

/-- The key at a place of memory. -/
def KeyAt (w : World) (p : Addr) (k : Ky) : Prop :=
  ∃ (B : Option Addr) (c : Nat), w.cell? p = some (.int .i64 k.id) ∧ w.cell? ⟨p.block, p.off + 1, none⟩ = some (.slice B k.sec.length c) ∧ w.cell? ⟨p.block, p.off + 2, none⟩ = some (.int .i64 k.fr) ∧ w.cell? ⟨p.block, p.off + 3, none⟩ = some (.int .i64 k.til) ∧ k.sec.length ≤ c ∧ c ≤ 9223372036854775807 ∧ RdI w .u8 B k.sec ∧ ∀ x ∈ k.sec, 0 ≤ x ∧ x < 256
/-- The slice at A reads as the keys l. -/
def RdK (w : World) (A : Option Addr) (l : List Ky) : Prop :=
  l = [] ∨ ∃ ad, A = some ad ∧ ad.block < w.heap.size ∧ ∀ j, (h : j < l.length) → KeyAt w (ad.add (j * 4)) l[j]
theorem KeyAt.below {w w' : World} {p : Addr} {n : Nat} {k : Ky} (h : KeyAt w p k) (hb : Below n w w') (hn : w.heap.size ≤ n) : KeyAt w' p k := by
  obtain ⟨B, c, h1, h2, h3, h4, h5, h6, h7, h8⟩ := h
  have K : ∀ {a : Addr} {v : Value}, w.cell? a = some v → w'.cell? a = some v := fun hc => (hb.cell (Nat.lt_of_lt_of_le (World.block_lt_of_cell? w _ hc) hn)).trans hc
  exact ⟨B, c, K h1, K h2, K h3, K h4, h5, h6, h7.keep hb.size (fun b hbn => hb.block b (Nat.lt_of_lt_of_le hbn hn)), h8⟩
theorem RdK.below {w w' : World} {A : Option Addr} {l : List Ky} {n : Nat} (h : RdK w A l) (hb : Below n w w') (hn : w.heap.size ≤ n) : RdK w' A l := by
  rcases h with h | ⟨ad, e, hlt, hk⟩
  · exact .inl h
  · exact .inr ⟨ad, e, Nat.lt_of_lt_of_le hlt hb.size, fun j hj => (hk j hj).below hb hn⟩
theorem ringGo_cons (last : Int) (k : Ky) (t : List Ky) : ringGo last (k :: t) = (rightB k && decide (last < k.id) && ringGo k.id t) := rfl

theorem is1_any (B : Option Addr) (n c : Nat) (k : Ky) (hn : k.sec.length = n) (last : Int) (g : Nat) (w : World) (hg : Boxed w g 3 (.int .i64 last)) :
    Calls Try.prog 70 #[.agg #[.int .i64 k.id, .slice B n c, .int .i64 k.fr, .int .i64 k.til], .pointer (some ⟨g, 0, none⟩)] w fun e w' => e = .returned (.bool (!(rightB k && decide (last < k.id)))) ∧ Boxed w' g 3 (.int .i64 k.id) ∧ Below g w w' := by
  have hR := right_any B n c k hn
  obtain ⟨z, hz⟩ : ∃ z, rightB k = z := ⟨_, rfl⟩
  rw [hz] at hR ⊢
  clear hz
  obtain ⟨id, sec, fr, til⟩ := k
  have hc := hg.cell
  have hf := hg.frozen
  have hlt : g < w.heap.size := (Array.getElem?_eq_some_iff.1 hg).1
  have hx0 : ((w.setCell ⟨g, 0, none⟩ (.int .i64 id)).alloc (.cells #[.int .i64 id, .slice B n c, .int .i64 fr, .int .i64 til] 49)).cell? ⟨w.heap.size, 0, none⟩ = some (.int .i64 id) := by
    have h := heap_alloc_new (w.setCell ⟨g, 0, none⟩ (.int .i64 id)) (.cells #[.int .i64 id, .slice B n c, .int .i64 fr, .int .i64 til] 49)
    rw [show (w.setCell ⟨g, 0, none⟩ (.int .i64 id)).heap.size = w.heap.size by simp] at h
    exact cell_of_row _ _ _ _ _ _ h
  have hb1 : Below g w ((w.setCell ⟨g, 0, none⟩ (.int .i64 id)).alloc (.cells #[.int .i64 id, .slice B n c, .int .i64 fr, .int .i64 til] 49)) := ((Below.refl g w).setCell (p := ⟨g, 0, none⟩) (Nat.le_refl _) _).alloc (by simp; omega) _
  have hsz1 : g < ((w.setCell ⟨g, 0, none⟩ (.int .i64 id)).alloc (.cells #[.int .i64 id, .slice B n c, .int .i64 fr, .int .i64 til] 49)).heap.size := by simp; omega
  have hsz2 : w.heap.size < ((w.setCell ⟨g, 0, none⟩ (.int .i64 id)).alloc (.cells #[.int .i64 id, .slice B n c, .int .i64 fr, .int .i64 til] 49)).heap.size := by simp
  have hg1 : Boxed ((w.setCell ⟨g, 0, none⟩ (.int .i64 id)).alloc (.cells #[.int .i64 id, .slice B n c, .int .i64 fr, .int .i64 til] 49)) g 3 (.int .i64 id) := (hg.set _).alloc _
  cases z with
  | false =>
    go_enter Try.func70, Try.ntmps70
    go_wp2_with (go_at_call 71; (with_reducible refine (hR _).mono ?_); rintro e w' ⟨rfl, hb⟩; go_loud (have hx := (hb.cell (p := ⟨w.heap.size, 0, none⟩) hsz2).trans hx0; have hbx := hb1.trans (hb.mono (Nat.le_of_lt hsz1)); have hgx := hb.block g hsz1))
    go_ret
    exact ⟨rfl, hgx.trans hg1, hbx⟩
  | true =>
    by_cases hl : id ≤ last
    · have hd : decide (last < id) = false := by rw [decide_eq_false_iff_not]; omega
      rw [hd]
      go_enter Try.func70, Try.ntmps70
      go_wp2_with (go_at_call 71; (with_reducible refine (hR _).mono ?_); rintro e w' ⟨rfl, hb⟩; go_loud (have hx := (hb.cell (p := ⟨w.heap.size, 0, none⟩) hsz2).trans hx0; have hbx := hb1.trans (hb.mono (Nat.le_of_lt hsz1)); have hgx := hb.block g hsz1))
      go_ret
      exact ⟨rfl, hgx.trans hg1, hbx⟩
    · have hd : decide (last < id) = true := by rw [decide_eq_true_eq]; omega
      have hd2 : decide (id ≤ last) = false := by rw [decide_eq_false_iff_not]; omega
      rw [hd]
      go_enter Try.func70, Try.ntmps70
      go_wp2_with (go_at_call 71; (with_reducible refine (hR _).mono ?_); rintro e w' ⟨rfl, hb⟩; go_loud (have hx := (hb.cell (p := ⟨w.heap.size, 0, none⟩) hsz2).trans hx0; have hbx := hb1.trans (hb.mono (Nat.le_of_lt hsz1)); have hgx := hb.block g hsz1))
      go_ret
      exact ⟨rfl, hgx.trans hg1, hbx⟩

set_option maxHeartbeats 4000000 in
theorem ringIdx_any (A : Option Addr) (c : Nat) (l : List Ky) (last : Int) (g : Nat) (w : World) (hg : Boxed w g 3 (.int .i64 last)) (hr : ∀ w', Below g w w' → RdK w' A l) (hl : l.length ≤ 9223372036854775807) :
    Calls Try.prog 110 #[.slice A l.length c, .func (.func 70) #[] #[.pointer (some ⟨g, 0, none⟩)]] w fun e w' => (∃ z : Int, e = .returned (.int .i64 z) ∧ (0 ≤ z ↔ ringGo last l = false)) ∧ Below g w w' := by
  go_enter Try.func110, Try.ntmps110
  go_wp2
  go_loopw [5, 8] (fun _ i wr => ∃ (k : Nat) (la : Int), k ≤ l.length ∧ i = .int .i64 k ∧ Boxed wr g 3 (.int .i64 la) ∧ Hid (ringGo la (l.drop k) = ringGo last l) ∧ Below g w wr) (fun _ i _ => l.length - (intOf i).toNat)
  case atStart => exact ⟨0, last, Nat.zero_le _, rfl, hg, Lib.hid (by simp), Below.refl _ _⟩
  case round =>
    obtain ⟨k, la, hk, rfl, hb, hq, hbW⟩ := hrel
    by_cases hlt : k < l.length
    · have e := hq.out
      rw [List.drop_eq_getElem_cons hlt, ringGo_cons] at e
      rcases hr wr hbW with h0 | ⟨ad, rfl, _, hka⟩
      · simp [h0] at hlt
      obtain ⟨B, c2, c0, c1, c22, c3, hcl, hcc, hsr, hsb⟩ := hka k hlt
      generalize l[k] = ky at *
      have HE := Lib.hid e
      clear e hq hka
      have k0 : (0 : Int) ≤ (k : Int) := by omega
      have k1 : (k : Int) < (l.length : Int) := by omega
      obtain ⟨n2, hn2⟩ : ∃ n2, ky.sec.length = n2 := ⟨_, rfl⟩
      rw [hn2] at c1
      have hI := fun W hbb => is1_any B n2 c2 ky hn2 la g W hbb
      cases hz : (rightB ky && decide (la < ky.id)) with
      | true =>
        have e := HE.out
        rw [hz, Bool.true_and] at e
        have HX := Lib.hid e
        clear e HE
        rw [hz] at hI
        clear hz
        go_wp2_with (go_at_call 70; (with_reducible refine (hI _ hb).mono ?_); rintro e w' ⟨rfl, hb2, hbl2⟩)
        go_roundw
        case rel => exact ⟨k + 1, _, by omega, by go_num, hb2, HX, hbW.trans hbl2⟩
        case measure => simp [intOf]; omega
      | false =>
        have e := HE.out
        rw [hz, Bool.false_and] at e
        have HX := Lib.hid e
        clear e HE
        rw [hz] at hI
        clear hz
        go_wp2_with (go_at_call 70; (with_reducible refine (hI _ hb).mono ?_); rintro e w' ⟨rfl, hb2, hbl2⟩)
        go_ret
        exact ⟨⟨_, rfl, ⟨fun _ => HX.out.symm, fun _ => by omega⟩⟩, hbW.trans hbl2⟩
    · have e := hq.out
      rw [List.drop_eq_nil_of_le (by omega)] at e
      have HE := Lib.hid (show ringGo last l = true from e.symm)
      clear e hq
      go_wp2
      go_ret
      exact ⟨⟨_, rfl, ⟨fun h => by omega, fun h => by rw [HE.out] at h; cases h⟩⟩, hbW⟩

theorem ringHas_any (A : Option Addr) (c : Nat) (l : List Ky) (last : Int) (g : Nat) (w : World) (hg : Boxed w g 3 (.int .i64 last)) (hr : ∀ w', Below g w w' → RdK w' A l) (hl : l.length ≤ 9223372036854775807) :
    Calls Try.prog 69 #[.slice A l.length c, .func (.func 70) #[] #[.pointer (some ⟨g, 0, none⟩)]] w fun e w' => e = .returned (.bool (!(ringGo last l))) ∧ Below g w w' := by
  cases hz : ringGo last l with
  | true =>
    have HZ := Lib.hid hz
    go_enter Try.func69, Try.ntmps69
    go_wp2_with (go_at_call 110; (with_reducible refine (ringIdx_any A c l last g _ hg hr hl).mono ?_); rintro e w' ⟨⟨z, rfl, hz2⟩, hb⟩; have hneg : decide (0 ≤ z) = false := (by rw [decide_eq_false_iff_not]; intro h; have := hz2.1 h; rw [HZ.out] at this; cases this); clear hz2)
    go_ret
    exact ⟨by first | rfl | simp [hneg], hb⟩
  | false =>
    have HZ := Lib.hid hz
    go_enter Try.func69, Try.ntmps69
    go_wp2_with (go_at_call 110; (with_reducible refine (ringIdx_any A c l last g _ hg hr hl).mono ?_); rintro e w' ⟨⟨z, rfl, hz2⟩, hb⟩; have hneg : decide (0 ≤ z) = true := (by rw [decide_eq_true_eq]; exact hz2.2 HZ.out); clear hz2)
    go_ret
    exact ⟨by first | rfl | simp [hneg], hb⟩

theorem ringIs_any (A : Option Addr) (c : Nat) (l : List Ky) (w : World) (hr : RdK w A l) (hl : l.length ≤ 9223372036854775807) :
    Calls Try.prog 28 #[.slice A l.length c] w fun e w' => e = .returned (.bool (ringB l)) ∧ Below w.heap.size w w' := by
  have hmf : ∀ (fn : Fn) (first cap : Array Value) (w : World), (Instr.makeFunc fn first cap).run Try.prog w = .ok (.func fn first cap) w := fun _ _ _ _ => rfl
  have hG := Boxed.new w 3 (.int .i64 (-1))
  have hK : ∀ w', Below w.heap.size (w.alloc (.cells #[.int .i64 (-1)] 3)) w' → RdK w' A l := fun w' hb => hr.below ((bel1 w _).trans hb) (Nat.le_refl _)
  go_enter Try.func28, Try.ntmps28
  go_wp2_with (go_at_call 69; (with_reducible refine (ringHas_any A c l (-1) w.heap.size _ hG hK hl).mono ?_); rintro e w' ⟨rfl, hb⟩)
  go_ret
  exact ⟨by simp [ringB], (bel1 w _).trans hb⟩
end Go.Proofs.Ytachkhjbckapoaa

namespace Go.Proofs.Ytachkhjbckapoaa
open Go.RowKit Go.Shelf
set_option linter.unusedVariables false
set_option maxRecDepth 100000
set_option linter.unusedSimpArgs false

theorem rightB_id {k : Ky} (h : rightB k = true) : 0 ≤ k.id ∧ k.id ≤ 99 := by
  unfold rightB at h
  simp only [Bool.and_eq_true] at h
  exact wB_iff h.1.1
theorem ringGo_mem : ∀ (l : List Ky) (last : Int), ringGo last l = true → ∀ k ∈ l, rightB k = true ∧ last < k.id
  | [], _, _, k, hk => by simp at hk
  | x :: t, last, h, k, hk => by
    rw [ringGo_cons, Bool.and_eq_true, Bool.and_eq_true, decide_eq_true_eq] at h
    rcases List.mem_cons.1 hk with rfl | hk
    · exact h.1
    · have := ringGo_mem t x.id h.2 k hk
      exact ⟨this.1, by have := h.1.2; omega⟩
theorem ringGo_lt : ∀ (l : List Ky) (last : Int), ringGo last l = true → ∀ (a b : Nat) (hb : b < l.length) (ha : a < b), (l[a]'(by omega)).id < l[b].id
  | [], _, _, a, b, hb, _ => by simp at hb
  | x :: t, last, h, a, b, hb, ha => by
    rw [ringGo_cons, Bool.and_eq_true] at h
    obtain ⟨b, rfl⟩ : ∃ b', b = b' + 1 := ⟨b - 1, by omega⟩
    simp only [List.getElem_cons_succ]
    cases a with
    | zero => exact (ringGo_mem t x.id h.2 _ (List.getElem_mem _)).2
    | succ a =>
      simp only [List.getElem_cons_succ]
      exact ringGo_lt t x.id h.2 a b (by simpa using hb) (by omega)

theorem any_none (l : List Ky) (id : Int) (h : ∀ (j : Nat) (hj : j < l.length), l[j].id < id) : (l.any fun k => k.id == id) = false := by
  rw [List.any_eq_false]
  intro k hk
  obtain ⟨j, hj, rfl⟩ := List.getElem_of_mem hk
  have := h j hj
  simp; omega
theorem any_at (l : List Ky) (id : Int) (a : Nat) (ha : a < l.length) (h1 : ∀ (j : Nat) (hj : j < l.length), j < a → l[j].id < id) (h2 : ∀ (j : Nat) (hj : j < l.length), a ≤ j → id ≤ l[j].id) (hlt : ∀ (a b : Nat) (hb : b < l.length) (ha : a < b), (l[a]'(by omega)).id < l[b].id) : (l.any fun k => k.id == id) = decide (l[a].id - id = 0) := by
  by_cases e : l[a].id = id
  · rw [decide_eq_true (by omega), List.any_eq_true]
    exact ⟨l[a], List.getElem_mem ha, by simp [e]⟩
  · rw [decide_eq_false (by omega), List.any_eq_false]
    intro k hk
    obtain ⟨j, hj, rfl⟩ := List.getElem_of_mem hk
    have g1 := h1 j hj
    have g2 := h2 j hj
    have g3 := h2 a ha (Nat.le_refl _)
    by_cases hja : j < a
    · have := g1 hja; simp; omega
    · by_cases hje : j = a
      · subst hje; simpa using e
      · have := hlt a j hj (by omega); simp; omega

theorem place1_any (B : Option Addr) (n c : Nat) (k : Ky) (id : Int) (w : World) (h1 : 0 ≤ k.id ∧ k.id ≤ 99) (h2 : 0 ≤ id ∧ id ≤ 99) :
    Calls Try.prog 118 #[.agg #[.int .i64 k.id, .slice B n c, .int .i64 k.fr, .int .i64 k.til], .int .i64 id] w fun e w' => e = .returned (.int .i64 (k.id - id)) ∧ Below w.heap.size w w' := by
  obtain ⟨kid, sec, fr, til⟩ := k
  have hw : IntKind.i64.wrap (kid - id) = kid - id := by rw [IntKind.wrap_i64]; simp only at h1; omega
  go_enter Try.func118, Try.ntmps118
  go_wp2
  go_ret
  exact ⟨rfl, (by repeat (first | (with_reducible exact bR _) | (with_reducible refine bT ?_ (by assumption)) | (with_reducible apply bA) | (with_reducible apply bD) | (with_reducible apply bN) | (with_reducible refine bS ?_ (by first | omega | (simp; done) | (simp; omega)))))⟩

set_option maxHeartbeats 4000000 in
theorem bsearch_any (A : Option Addr) (c : Nat) (l : List Ky) (id : Int) (w : World) (hr : RdK w A l) (hl : l.length ≤ 100) (hlt : ∀ (a b : Nat) (hb : b < l.length) (ha : a < b), (l[a]'(by omega)).id < l[b].id) (hid : ∀ k ∈ l, 0 ≤ k.id ∧ k.id ≤ 99) (h2 : 0 ≤ id ∧ id ≤ 99) :
    Calls Try.prog 117 #[.slice A l.length c, .int .i64 id, .func (.func 118) #[] #[]] w fun e w' =>
      (∃ p : Nat, p ≤ l.length ∧ e = .returned (.tuple #[.int .i64 p, .bool (l.any fun k => k.id == id)]) ∧ (∀ (j : Nat) (hj : j < l.length), j < p → l[j].id < id) ∧ (∀ (j : Nat) (hj : j < l.length), p ≤ j → id ≤ l[j].id)) ∧ Below w.heap.size w w' := by
  go_enter Try.func117, Try.ntmps117
  go_wp2
  go_loopw [9, 10] (fun i j wr => ∃ a b : Nat, a ≤ b ∧ b ≤ l.length ∧ i = .int .i64 a ∧ j = .int .i64 b ∧ (∀ (j : Nat) (hj : j < l.length), j < a → l[j].id < id) ∧ (∀ (j : Nat) (hj : j < l.length), b ≤ j → id ≤ l[j].id) ∧ Below w.heap.size w wr) (fun i j _ => (intOf j).toNat - (intOf i).toNat)
  case atStart => exact ⟨0, l.length, by omega, by omega, rfl, rfl, fun j hj h => by omega, fun j hj h => by omega, Below.refl _ _⟩
  case round =>
    obtain ⟨a, b, hab, hbl, rfl, rfl, hlo, hhi, hbW⟩ := hrel
    by_cases hq : a < b
    · obtain ⟨h, hh⟩ : ∃ h, (a + b) / 2 = h := ⟨_, rfl⟩
      have hah : a ≤ h := by omega
      have hhb : h < b := by omega
      have hhe : ((a : Int) + (b : Int)) / 2 = (h : Int) := by omega
      have hl2 : h < l.length := by omega
      rcases hr.below hbW (Nat.le_refl _) with h0 | ⟨ad, rfl, _, hka⟩
      · simp [h0] at hl2
      obtain ⟨B, c2, c0, c1, c22, c3, hcl, hcc, hsr, hsb⟩ := hka h hl2
      have hidk := hid _ (List.getElem_mem hl2)
      have L1 : ∀ (j : Nat) (hj : j < l.length), j < h → l[j].id < l[h].id := fun j hj hjh => hlt j h hl2 hjh
      have L2 : ∀ (j : Nat) (hj : j < l.length), h < j → l[h].id < l[j].id := fun j hj hjh => hlt h j hj hjh
      obtain ⟨ky, hky⟩ : ∃ ky, l[h] = ky := ⟨_, rfl⟩
      have EQ : ∀ (hj : h < l.length), l[h] = ky := fun _ => hky
      rw [hky] at c0 c1 c22 c3 hidk hsr hsb hcl
      have L1' := Lib.hid L1
      have L2' := Lib.hid L2
      have HLO := Lib.hid hlo
      have HHI := Lib.hid hhi
      have HKY := Lib.hid hky
      clear L1 L2 hlo hhi hky hka EQ
      have k0 : (0 : Int) ≤ (h : Int) := by omega
      have k1 : (h : Int) < (l.length : Int) := by omega
      obtain ⟨n2, hn2⟩ : ∃ n2, ky.sec.length = n2 := ⟨_, rfl⟩
      rw [hn2] at c1
      have hP := fun W => place1_any B n2 c2 ky id W hidk h2
      by_cases hcmp : ky.id < id
      · have hd : decide (ky.id - id < 0) = true := by rw [decide_eq_true_eq]; omega
        go_wp2_with (go_at_call 118; (with_reducible refine (hP _).mono ?_); rintro e w' ⟨rfl, hb2⟩)
        go_roundw
        case rel =>
          refine ⟨h + 1, b, by omega, by omega, by go_num, rfl, ?_, HHI.out, bT hbW hb2⟩
          intro j hj hjh
          by_cases e : j = h
          · subst e; have := HKY.out; rw [this]; exact hcmp
          · have := L1'.out j hj (by omega); rw [HKY.out] at this; omega
        case measure => simp [intOf]; omega
      · have hd : decide (ky.id - id < 0) = false := by rw [decide_eq_false_iff_not]; omega
        go_wp2_with (go_at_call 118; (with_reducible refine (hP _).mono ?_); rintro e w' ⟨rfl, hb2⟩)
        go_roundw
        case rel =>
          refine ⟨a, h, by omega, by omega, rfl, by go_num, HLO.out, ?_, bT hbW hb2⟩
          intro j hj hjh
          by_cases e : j = h
          · subst e; have := HKY.out; rw [this]; omega
          · have := L2'.out j hj (by omega); rw [HKY.out] at this; omega
        case measure => simp [intOf]; omega
    · obtain rfl : a = b := by omega
      have HLO := Lib.hid hlo
      have HHI := Lib.hid hhi
      clear hlo hhi
      by_cases hend : a < l.length
      · rcases hr.below hbW (Nat.le_refl _) with h0 | ⟨ad, rfl, _, hka⟩
        · simp [h0] at hend
        obtain ⟨B, c2, c0, c1, c22, c3, hcl, hcc, hsr, hsb⟩ := hka a hend
        have hidk := hid _ (List.getElem_mem hend)
        have HA := any_at l id a hend HLO.out HHI.out hlt
        generalize hky : l[a] = ky at *
        have HAN := Lib.hid HA
        clear HA hka hky
        have k0 : (0 : Int) ≤ (a : Int) := by omega
        have k1 : (a : Int) < (l.length : Int) := by omega
        obtain ⟨n2, hn2⟩ : ∃ n2, ky.sec.length = n2 := ⟨_, rfl⟩
        rw [hn2] at c1
        have hP := fun W => place1_any B n2 c2 ky id W hidk h2
        go_wp2_with (go_at_call 118; (with_reducible refine (hP _).mono ?_); rintro e w' ⟨rfl, hb2⟩)
        go_ret2
        exact ⟨⟨a, by omega, by rw [HAN.out] <;> rfl, HLO.out, HHI.out⟩, bT hbW hb2⟩
      · have HA := any_none l id (fun j hj => HLO.out j hj (by omega))
        have HAN := Lib.hid HA
        clear HA
        have k1 : ¬ (a : Int) < (l.length : Int) := by omega
        go_wp2
        go_ret2
        exact ⟨⟨a, by omega, by rw [HAN.out] <;> rfl, HLO.out, HHI.out⟩, hbW⟩

theorem place_any (A : Option Addr) (c : Nat) (l : List Ky) (id : Int) (w : World) (hr : RdK w A l) (hl : l.length ≤ 100) (hlt : ∀ (a b : Nat) (hb : b < l.length) (ha : a < b), (l[a]'(by omega)).id < l[b].id) (hid : ∀ k ∈ l, 0 ≤ k.id ∧ k.id ≤ 99) (h2 : 0 ≤ id ∧ id ≤ 99) :
    Calls Try.prog 76 #[.slice A l.length c, .int .i64 id] w fun e w' =>
      (∃ p : Nat, p ≤ l.length ∧ e = .returned (.tuple #[.int .i64 p, .bool (l.any fun k => k.id == id)]) ∧ (∀ (j : Nat) (hj : j < l.length), j < p → l[j].id < id) ∧ (∀ (j : Nat) (hj : j < l.length), p ≤ j → id ≤ l[j].id)) ∧ Below w.heap.size w w' := by
  have hB := fun W hW => bsearch_any A c l id W hW hl hlt hid h2
  generalize (l.any fun k => k.id == id) = z at *
  go_enter Try.func76, Try.ntmps76
  go_wp2_with (go_at_call 117; (with_reducible refine (hB _ hr).mono ?_); rintro e w' ⟨⟨p, hp, rfl, hlo, hhi⟩, hb⟩; have HLO := Lib.hid hlo; have HHI := Lib.hid hhi; clear hlo hhi)
  go_ret2
  exact ⟨⟨p, hp, rfl, HLO.out, HHI.out⟩, hb⟩

theorem ring_len {l : List Ky} (h : ringB l = true) : l.length ≤ 100 := by
  have hlt := ringGo_lt l (-1) h
  have hm := ringGo_mem l (-1) h
  have key : ∀ (j : Nat) (hj : j < l.length), (j : Int) ≤ l[j].id := by
    intro j
    induction j with
    | zero => intro hj; have := rightB_id (hm _ (List.getElem_mem hj)).1; omega
    | succ j ih =>
      intro hj
      have h1 := ih (by omega)
      have h2 := hlt j (j + 1) hj (by omega)
      omega
  by_cases h0 : l.length = 0
  · omega
  · have h1 := key (l.length - 1) (by omega)
    have h2 := rightB_id (hm _ (List.getElem_mem (show l.length - 1 < l.length by omega))).1
    omega
/-- What a ring gives for a number: the key, or an error. -/
def findE (l : List Ky) (id : Int) : Option Ky × Int :=
  if ringB l = false then (none, 1) else if 0 ≤ id ∧ id < 100 then match l.find? (fun k => k.id == id) with
    | some k => (some k, 0)
    | none => (none, 10)
  else (none, 10)
def keyV (r : Option Ky) (B : Option Addr) (c : Nat) : Value := match r with
  | some k => .agg #[.int .i64 k.id, .slice B k.sec.length c, .int .i64 k.fr, .int .i64 k.til]
  | none => .agg #[.int .i64 0, .slice none 0 0, .int .i64 0, .int .i64 0]
def FindRet (l : List Ky) (id : Int) (w0 w : World) (e : Ending) (w' : World) : Prop :=
  (∃ (B : Option Addr) (c : Nat), e = .returned (.tuple #[keyV (findE l id).1 B c, .int .i64 (findE l id).2]) ∧ ∀ k, (findE l id).1 = some k → k.sec.length ≤ c ∧ c ≤ 9223372036854775807 ∧ RdI w0 .u8 B k.sec ∧ (∀ x ∈ k.sec, 0 ≤ x ∧ x < 256) ∧ rightB k = true ∧ k.id = id) ∧ Below w.heap.size w w'
theorem find_at {l : List Ky} {id : Int} {p : Nat} (hp : p < l.length) (h1 : ∀ (j : Nat) (hj : j < l.length), j < p → l[j].id < id) (e : l[p].id = id) : l.find? (fun k => k.id == id) = some l[p] := by
  rw [List.find?_eq_some_iff_getElem]
  refine ⟨by simp [e], p, hp, rfl, ?_⟩
  intro j hj
  have := h1 j (by omega) hj
  simp; omega
theorem any_find {l : List Ky} {id : Int} (h : (l.any fun k => k.id == id) = false) : l.find? (fun k => k.id == id) = none := by
  rw [List.find?_eq_none]
  intro k hk
  have := List.any_eq_false.1 h k hk
  simpa using this
theorem any_pos {l : List Ky} {id : Int} {p : Nat} (h : (l.any fun k => k.id == id) = true) (h1 : ∀ (j : Nat) (hj : j < l.length), j < p → l[j].id < id) (h2 : ∀ (j : Nat) (hj : j < l.length), p ≤ j → id ≤ l[j].id) (hlt : ∀ (a b : Nat) (hb : b < l.length) (ha : a < b), (l[a]'(by omega)).id < l[b].id) : ∃ hp : p < l.length, l[p].id = id := by
  obtain ⟨k, hk, he⟩ := List.any_eq_true.1 h
  obtain ⟨j, hj, rfl⟩ := List.getElem_of_mem hk
  simp only [beq_iff_eq] at he
  have hpj : p ≤ j := by
    rcases Nat.lt_or_ge j p with h | h
    · have := h1 j hj h; omega
    · exact h
  have hp : p < l.length := by omega
  refine ⟨hp, ?_⟩
  have g := h2 p hp (Nat.le_refl _)
  by_cases e : p = j
  · subst e; exact he
  · have := hlt p j hj (by omega); omega

theorem keySize (a b c : Int) (v u : Value) : (#[.int .i64 0, u, .int .i64 0, .int .i64 0] : Array Value).size = (#[.int .i64 a, v, .int .i64 b, .int .i64 c] : Array Value).size := rfl
theorem keyOne (a b c : Int) (B : Option Addr) (m n : Nat) : (#[.int .i64 a, .slice B m n, .int .i64 b, .int .i64 c] : Array Value).all (·.oneCell') = true := by simp [Value.oneCell']
theorem infoK : (Try.prog.info? 49).map (·.size) = some 4 := by kernel_rfl
theorem results_keyrow {P : Program} {fn : Func} {t u : Tmp} {T ty : TypeId} (h : fn.results = #[.cell t T, .tmp u]) {d : TypeDesc} (hu : P.underlying T = some d) (hd : (match d with | .struct _ | .array _ _ => true | _ => false) = true)
    {tmps : Array Value} {g : Nat} {v : Value} {cs : Array Value} {fr : Nat × Nat} (hp : tmps.getD t undef = .pointer (some ⟨g, 0, none⟩)) (hv : tmps.getD u undef = v) {w : World} (hg : w.heap[g]? = some (.cells cs ty fr)) (hi : (P.info? T).map (·.size) = some cs.size) :
    (results fn tmps).run P w = .ok (.tuple #[.agg cs, v]) w := by
  have hl := run_loadVar_row (P := P) w g ty T cs fr d hg hu hd hi
  simp only [results, h, Array.mapM_eq_mapM_toList, List.mapM_cons, List.mapM_nil]
  simp [Sem.run_bind, hp, hv, asAddr, hl, Result.andThen]
theorem findOut {l : List Ky} {id : Int} {w0 w w' : World} {tmps : Array Value} (hp : tmps.getD 4 undef = .pointer (some ⟨w.heap.size, 0, none⟩)) (hv : tmps.getD 5 undef = .int .i64 (findE l id).2) (hn : (findE l id).1 = none)
    (hF : w'.heap[w.heap.size]? = some (.cells #[.int .i64 0, .slice none 0 0, .int .i64 0, .int .i64 0] 49 (0, 0))) (hb : Below w.heap.size w w') :
    ∃ u, (results Try.f31 tmps).run Try.prog (w'.setRow w.heap.size #[.int .i64 0, .slice none 0 0, .int .i64 0, .int .i64 0]) = .ok u (w'.setRow w.heap.size #[.int .i64 0, .slice none 0 0, .int .i64 0, .int .i64 0]) ∧ FindRet l id w0 w (.returned u) (w'.setRow w.heap.size #[.int .i64 0, .slice none 0 0, .int .i64 0, .int .i64 0]) :=
  ⟨_, results_keyrow rfl Try.underlying49 rfl hp hv (setRow_heap _ _ _ _ _ _ hF) infoK, ⟨none, 0, by rw [hn] <;> rfl, fun k hk => by rw [hn] at hk; cases hk⟩, setRow_below hb (Nat.le_refl _)⟩

theorem findPost {l : List Ky} {id : Int} {w0 w w' : World} {a : Act} (hd : a.defers = []) (hp : a.tmps.getD 4 undef = .pointer (some ⟨w.heap.size, 0, none⟩)) (hv : a.tmps.getD 5 undef = .int .i64 (findE l id).2) (hn : (findE l id).1 = none)
    (hF : w'.heap[w.heap.size]? = some (.cells #[.int .i64 0, .slice none 0 0, .int .i64 0, .int .i64 0] 49 (0, 0))) (hb : Below w.heap.size w w') : bodyPost Try.prog Try.f31 (FindRet l id w0 w) .ret a (w'.setRow w.heap.size #[.int .i64 0, .slice none 0 0, .int .i64 0, .int .i64 0]) := by
  obtain ⟨u, hu, hR⟩ := findOut hp hv hn hF hb
  exact bodyPost_ret hu hd hR
theorem findPost2 {l : List Ky} {id : Int} {w0 w w' : World} {a : Act} {ky : Ky} {B : Option Addr} {c n : Nat} (hd : a.defers = []) (hp : a.tmps.getD 4 undef = .pointer (some ⟨w.heap.size, 0, none⟩)) (hv : a.tmps.getD 5 undef = .int .i64 0) (hE : findE l id = (some ky, 0)) (hn : ky.sec.length = n)
    (hF : w'.heap[w.heap.size]? = some (.cells #[.int .i64 0, .slice none 0 0, .int .i64 0, .int .i64 0] 49 (0, 0))) (hb : Below w.heap.size w w') (hc : n ≤ c) (hc9 : c ≤ 9223372036854775807) (hr : RdI w0 .u8 B ky.sec) (hby : ∀ x ∈ ky.sec, 0 ≤ x ∧ x < 256) (hrt : rightB ky = true) (hid : ky.id = id) :
    bodyPost Try.prog Try.f31 (FindRet l id w0 w) .ret a (w'.setRow w.heap.size #[.int .i64 ky.id, .slice B n c, .int .i64 ky.fr, .int .i64 ky.til]) := by
  subst hn
  have hb2 : Below w.heap.size w (w'.setRow w.heap.size #[.int .i64 ky.id, .slice B ky.sec.length c, .int .i64 ky.fr, .int .i64 ky.til]) := setRow_below hb (Nat.le_refl _)
  refine bodyPost_ret (results_keyrow rfl Try.underlying49 rfl hp hv (setRow_heap _ _ _ _ _ _ hF) infoK) hd ⟨⟨B, c, by rw [hE] <;> rfl, fun k hk => ?_⟩, hb2⟩
  rw [hE] at hk
  obtain rfl := Option.some.inj hk
  exact ⟨hc, hc9, hr, hby, hrt, hid⟩

set_option maxHeartbeats 4000000 in
theorem ringFind_any (A : Option Addr) (c : Nat) (l : List Ky) (id : Int) (w0 w : World) (hr : RdK w0 A l) (hb9 : Below w0.heap.size w0 w) (hl : l.length ≤ 9223372036854775807) :
    Calls Try.prog 31 #[.slice A l.length c, .int .i64 id] w (FindRet l id w0 w) := by
  have hI := fun W hW => ringIs_any A c l W hW hl
  have hr0 := (hr.below hb9 (Nat.le_refl _)).below (bel1 w (.cells #[.int .i64 0, .slice none 0 0, .int .i64 0, .int .i64 0] 49)) (Nat.le_refl _)
  have hF0 := heap_alloc_new w (.cells #[.int .i64 0, .slice none 0 0, .int .i64 0, .int .i64 0] 49)
  have hs0 : w.heap.size < (w.alloc (.cells #[.int .i64 0, .slice none 0 0, .int .i64 0, .int .i64 0] 49)).heap.size := by simp
  have hb0 := bel1 w (.cells #[.int .i64 0, .slice none 0 0, .int .i64 0, .int .i64 0] 49)
  cases hz : ringB l with
  | false =>
    have e := (show findE l id = (none, 1) by unfold findE; rw [if_pos hz])
    have E1 := Lib.hid (congrArg Prod.fst e)
    have E2 := Lib.hid (congrArg Prod.snd e)
    rw [hz] at hI
    clear e
    go_enter Try.func31, Try.ntmps31
    go_wp2_with (first | (go_at_call 28; (with_reducible refine (hI _ hr0).mono ?_); rintro e w' ⟨rfl, hb⟩; have hF := (hb.block w.heap.size hs0).trans hF0; have hbx := hb0.trans (hb.mono (Nat.le_of_lt hs0))) | (refine wpList_store_row rfl 49 _ _ rfl w.heap.size #[.int .i64 0, .slice none 0 0, .int .i64 0, .int .i64 0] rfl rfl 49 _ hF ?_ ?_ ?_ ?_; (focus (exact infoK)); (focus (exact keySize _ _ _ _ _)); (focus (exact keyOne _ _ _ _ _ _))))
    exact findPost rfl rfl (by rw [E2.out] <;> rfl) E1.out hF hbx
  | true =>
    have hlen := ring_len hz
    have hlt := ringGo_lt l (-1) hz
    have hm := ringGo_mem l (-1) hz
    have hid : ∀ k ∈ l, 0 ≤ k.id ∧ k.id ≤ 99 := fun k hk => rightB_id (hm k hk).1
    rw [hz] at hI
    have HZ := Lib.hid hz
    by_cases h0 : 0 ≤ id
    rotate_left
    · have e := (show findE l id = (none, 10) by unfold findE; rw [if_neg (by simp [hz]), if_neg (by omega)])
      have E1 := Lib.hid (congrArg Prod.fst e)
      have E2 := Lib.hid (congrArg Prod.snd e)
      clear e hlt hm hid
      go_enter Try.func31, Try.ntmps31
      go_wp2_with (first | (go_at_call 28; (with_reducible refine (hI _ hr0).mono ?_); rintro e w' ⟨rfl, hb⟩; have hF := (hb.block w.heap.size hs0).trans hF0; have hbx := hb0.trans (hb.mono (Nat.le_of_lt hs0))) | (refine wpList_store_row rfl 49 _ _ rfl w.heap.size #[.int .i64 0, .slice none 0 0, .int .i64 0, .int .i64 0] rfl rfl 49 _ hF ?_ ?_ ?_ ?_; (focus (exact infoK)); (focus (exact keySize _ _ _ _ _)); (focus (exact keyOne _ _ _ _ _ _))))
      exact findPost rfl rfl (by rw [E2.out] <;> rfl) E1.out hF hbx
    by_cases h1 : id < 100
    rotate_left
    · have e := (show findE l id = (none, 10) by unfold findE; rw [if_neg (by simp [hz]), if_neg (by omega)])
      have E1 := Lib.hid (congrArg Prod.fst e)
      have E2 := Lib.hid (congrArg Prod.snd e)
      clear e hlt hm hid
      go_enter Try.func31, Try.ntmps31
      go_wp2_with (first | (go_at_call 28; (with_reducible refine (hI _ hr0).mono ?_); rintro e w' ⟨rfl, hb⟩; have hF := (hb.block w.heap.size hs0).trans hF0; have hbx := hb0.trans (hb.mono (Nat.le_of_lt hs0))) | (refine wpList_store_row rfl 49 _ _ rfl w.heap.size #[.int .i64 0, .slice none 0 0, .int .i64 0, .int .i64 0] rfl rfl 49 _ hF ?_ ?_ ?_ ?_; (focus (exact infoK)); (focus (exact keySize _ _ _ _ _)); (focus (exact keyOne _ _ _ _ _ _))))
      exact findPost rfl rfl (by rw [E2.out] <;> rfl) E1.out hF hbx
    have hPl := fun W hW => place_any A c l id W hW hlen hlt hid ⟨h0, by omega⟩
    have HLT := Lib.hid hlt
    have HM := Lib.hid hm
    clear hlt hm hid
    cases ha : (l.any fun k => k.id == id) with
    | false =>
      have e := (show findE l id = (none, 10) by unfold findE; rw [if_neg (by simp [hz]), if_pos ⟨h0, h1⟩, any_find ha])
      have E1 := Lib.hid (congrArg Prod.fst e)
      have E2 := Lib.hid (congrArg Prod.snd e)
      rw [ha] at hPl
      clear e ha
      go_enter Try.func31, Try.ntmps31
      go_wp2_with (first | (go_at_call 28; (with_reducible refine (hI _ hr0).mono ?_); rintro e w1 ⟨rfl, hb⟩; have hF1 := (hb.block w.heap.size hs0).trans hF0; have hb1 := hb0.trans (hb.mono (Nat.le_of_lt hs0)); have hr1 := hr0.below hb (Nat.le_refl _)) | (go_at_call 76; (with_reducible refine (hPl _ hr1).mono ?_); rintro e w' ⟨⟨p, hp, rfl, _, _⟩, hb2⟩; have hF := (hb2.block w.heap.size (Array.getElem?_eq_some_iff.1 hF1).1).trans hF1; have hbx := hb1.trans (hb2.mono hb1.size)) | (refine wpList_store_row rfl 49 _ _ rfl w.heap.size #[.int .i64 0, .slice none 0 0, .int .i64 0, .int .i64 0] rfl rfl 49 _ hF ?_ ?_ ?_ ?_; (focus (exact infoK)); (focus (exact keySize _ _ _ _ _)); (focus (exact keyOne _ _ _ _ _ _))))
      exact findPost rfl rfl (by rw [E2.out] <;> rfl) E1.out hF hbx
    | true =>
      have HA := Lib.hid ha
      rw [ha] at hPl
      clear ha
      go_enter Try.func31, Try.ntmps31
      go_wp2_with (first | (go_at_call 28; (with_reducible refine (hI _ hr0).mono ?_); rintro e w1 ⟨rfl, hb⟩; have hF1 := (hb.block w.heap.size hs0).trans hF0; have hb1 := hb0.trans (hb.mono (Nat.le_of_lt hs0)); have hr1 := hr0.below hb (Nat.le_refl _)) | (go_at_call 76; (with_reducible refine (hPl _ hr1).mono ?_); rintro e w' ⟨⟨p, hp, rfl, hlo, hhi⟩, hb2⟩; have hF := (hb2.block w.heap.size (Array.getElem?_eq_some_iff.1 hF1).1).trans hF1; have hbx := hb1.trans (hb2.mono hb1.size); obtain ⟨hpl, hpe⟩ := any_pos HA.out hlo hhi HLT.out; have e := (show findE l id = (some l[p], 0) by unfold findE; rw [if_neg (by simp [HZ.out]), if_pos ⟨h0, h1⟩, find_at hpl hlo hpe]); have E0 := Lib.hid e; have HPE := Lib.hid hpe; have HRT := Lib.hid (HM.out l[p] (List.getElem_mem hpl)).1; clear e hlo hhi hpe; rcases hr with hh0 | ⟨ad, rfl, _, hka⟩; (focus (simp [hh0] at hpl)); obtain ⟨B, c2, c0, c1, c22, c3, hcl, hcc, hsr, hsb⟩ := hka p hpl; generalize hky : l[p] = ky at *; clear hka hky; have k0 : (0 : Int) ≤ (p : Int) := (by omega); have k1 : (p : Int) < (l.length : Int) := (by omega); obtain ⟨n2, hn2⟩ : ∃ n2, ky.sec.length = n2 := ⟨_, rfl⟩; rw [hn2] at c1 hcl; have c0' := keep_cell hbx (keep_cell hb9 c0); have c1' := keep_cell hbx (keep_cell hb9 c1); have c22' := keep_cell hbx (keep_cell hb9 c22); have c3' := keep_cell hbx (keep_cell hb9 c3); clear c0 c1 c22 c3) | (refine wpList_store_row rfl 49 _ _ rfl w.heap.size #[.int .i64 ky.id, .slice B n2 c2, .int .i64 ky.fr, .int .i64 ky.til] rfl rfl 49 _ hF ?_ ?_ ?_ ?_; (focus (exact infoK)); (focus (exact keySize _ _ _ _ _)); (focus (exact keyOne _ _ _ _ _ _))))
      exact findPost2 rfl rfl rfl E0.out hn2 hF hbx hcl hcc hsr hsb HRT.out HPE.out
end Go.Proofs.Ytachkhjbckapoaa

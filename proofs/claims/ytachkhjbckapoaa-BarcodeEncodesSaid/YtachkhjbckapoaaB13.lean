/- Layer 3, the reference's tag. Condition: not more than 800000 bytes each. A range over a function, where the iterator keeps state of its own in memory: the statement and the round, at the wide fence, without an abstract invariant. Layer 16, the plain facts: bytes as signs of 45, two bytes as three signs; what was put is got again, and what was got is put as it was. Layer 16: the groups of some bytes, as an iterator. Layer 16: a sign out of the string of all signs. No condition. -/
import Derived.Test.YtachkhjbckapoaaB11
import Derived.Test.YtachkhjbckapoaaB12
import Derived.Test.YtachkhjbckapoaaB00
import Derived.RangeFuncNested
import Derived.RangeFuncBound
import Derived.RangeFuncCalls
import Derived.RangeFuncLeaves
import Derived.RangeFuncBox
import Derived.Shelf.Abstract
import Derived.OwnWalkIn
import Derived.TacticsInMore
import Derived.LoopNIn
import Derived.LoopIn
import Derived.Test.YtachkhjbckapoaaB09
import Derived.Laws.Strings
namespace Go.Proofs.Ytachkhjbckapoaa
open Go.RowKit
set_option linter.unusedVariables false
set_option maxRecDepth 100000
set_option linter.unusedSimpArgs false

theorem fill_set2 {α : Type} (l : List α) (z x : α) (t n : Nat) (ht : t < n) (hx : l[t]? = some x) :
    (l.take t ++ List.replicate (n - t) z).set t x = l.take (t + 1) ++ List.replicate (n - (t + 1)) z := by
  obtain ⟨m, hm⟩ : ∃ m, n - t = m + 1 := ⟨n - t - 1, by omega⟩
  have hlt : t < l.length := (List.getElem?_eq_some_iff.1 hx).1
  have hlen : (l.take t).length = t := by rw [List.length_take]; omega
  rw [hm, show n - (t + 1) = m by omega, List.replicate_succ, List.set_append, if_neg (by omega), hlen, Nat.sub_self, List.set_cons_zero, List.take_add_one, hx]
  simp

set_option maxHeartbeats 8000000 in
theorem refKey_any (A : Option Addr) (c : Nat) (l : List Int) (w : World) (hr : RdI w .u8 A l) (hl : l.length ≤ 800000) (hlc : l.length ≤ c) (hb : ∀ x ∈ l, 0 ≤ x ∧ x < 256) :
    Calls Try.prog 95 #[.slice A l.length c] w fun e w' => e = .returned (.agg (bv (keyN l)).toArray) ∧ Below w.heap.size w w' := by
  obtain ⟨KN, hKN⟩ : ∃ K, keyN l = K := ⟨_, rfl⟩
  have hKl : KN.length = 64 := by rw [← hKN]; exact keyN_len l
  have HKL := Lib.hid hKl
  have HKN := Lib.hid hKN
  clear hKl hKN
  obtain ⟨w0, hw0, g0, g1, z0, b0⟩ := new2 w (.cells (bv (List.replicate 64 0)).toArray 102) (.cells (bv (List.replicate 64 0)).toArray 102)
  have hq := Lib.hid hw0
  have hsz1 : w.heap.size + 1 < w0.heap.size := by omega
  obtain ⟨w3, hw3⟩ : ∃ w3, w0.setRow (w.heap.size + 1) (bv (List.replicate 64 0)).toArray = w3 := ⟨_, rfl⟩
  have HO : Hid (w3.heap[w.heap.size + 1]? = some (.cells (bv (List.replicate 64 0)).toArray 102 (0, 0))) := Lib.hid (by rw [← hw3]; exact setRow_heap _ _ _ _ _ _ g1)
  have HG3 : Hid (w3.heap[w.heap.size]? = some (.cells (bv (List.replicate 64 0)).toArray 102 (0, 0))) := Lib.hid (by rw [← hw3]; exact (setRow_other _ _ _ _ (by omega)).trans g0)
  have HB3 : Hid (Below w.heap.size w w3) := Lib.hid (by rw [← hw3]; exact setRow_below b0 (by omega))
  have HZ3 : Hid (w.heap.size + 1 < w3.heap.size) := Lib.hid (Array.getElem?_eq_some_iff.1 HO.out).1
  have HW3 := Lib.hid hw3
  have HG1 := Lib.hid g1
  have HR := Lib.hid (hr.below HB3.out)
  clear hw0 hw3 g0 g1 z0 b0 hsz1
  by_cases h64 : 64 < l.length
  · have HK : Hid (sumN l ++ List.replicate (64 - 32) 0 = KN) := Lib.hid (by rw [← HKN.out]; unfold keyN; rw [if_pos h64, sumN_len])
    have d1 : (64 : Int) < (l.length : Int) := by omega
    go_enter Try.func95, Try.ntmps95
    go_wp2_with (first | (refine wpL_build rfl 102 _ rfl (bv (List.replicate 64 0)).toArray ?_ ?_; (focus (as_aux_lemma => kernel_rfl))) | (refine wpList_store_row rfl 102 _ _ rfl (w.heap.size + 1) (bv (List.replicate 64 0)).toArray rfl rfl 102 _ (heap_alloc2_new w _ _) infoA64 (by kernel_rfl) (all_one (bv_one _)) ?_; generalize hW2 : World.setRow _ _ _ = w22; obtain rfl : w3 = w22 := (by rw [← HW3.out, ← hq.out, ← hW2]; kernel_rfl)))
    refine (refSum_any A c l w3 HR.out (by omega) hb).mono ?_
    rintro e w4 ⟨rfl, hb4⟩
    obtain ⟨S, hS⟩ : ∃ S, sumN l = S := ⟨_, rfl⟩
    have hSl : S.length = 32 := by rw [← hS]; exact sumN_len l
    rw [hS] at HK ⊢
    have HO4 := Lib.hid ((hb4.block _ HZ3.out).trans HO.out)
    have HG4 := Lib.hid ((hb4.block w.heap.size (by have := HZ3.out; omega)).trans HG3.out)
    have HB4 := Lib.hid (bT HB3.out hb4)
    have hz4 : w.heap.size + 1 < w4.heap.size := (Array.getElem?_eq_some_iff.1 HO4.out).1
    obtain ⟨w5, hw5, g5, hb5, hz5⟩ := newRow w4 (bv (List.replicate 32 0)).toArray (bv S).toArray 42
    have HO5 := Lib.hid ((hb5.block _ hz4).trans HO4.out)
    have HG5 := Lib.hid ((hb5.block w.heap.size (by omega)).trans HG4.out)
    have HB5 := Lib.hid (bT HB4.out hb5)
    have HR5 := Lib.hid (rd_row g5)
    have HS3 := Lib.hid hSl
    have HW5 := Lib.hid hw5
    have HNE5 : Hid (S = [] ∨ ∀ ad, (some ⟨w4.heap.size, 0, none⟩ : Option Addr) = some ad → ad.block ≠ w.heap.size + 1) := Lib.hid (.inr fun ad e => by rw [← Option.some.inj e]; show w4.heap.size ≠ _; omega)
    clear hS hSl hb4 hw5 g5 hb5 hz5 hl hr hb
    go_wp2_with (refine wpList_store_row rfl 42 _ _ rfl w4.heap.size (bv S).toArray rfl rfl 42 _ (heap_alloc_new w4 _) ?_ ?_ (all_one (bv_one _)) ?_; (focus (rw [List.size_toArray, bv_len, HS3.out]; exact info32)); (focus (show 32 = (bv S).toArray.size; rw [List.size_toArray, bv_len, HS3.out])); generalize hW3 : World.setRow _ _ _ = w33; obtain rfl : w5 = w33 := (by rw [← HW5.out, ← hW3]; kernel_rfl))
    have HSL : Hid (S.length ≤ 64) := Lib.hid (by rw [HS3.out]; decide)
    have HSN : Hid ((S.length : Int) = 32) := Lib.hid (by rw [HS3.out]; rfl)
    have HK : Hid (S ++ List.replicate (64 - S.length) 0 = KN) := Lib.hid (by rw [HS3.out]; exact HK.out)
    obtain ⟨A', hA'⟩ : ∃ A', (some ⟨w4.heap.size, 0, none⟩ : Option Addr) = A' := ⟨_, rfl⟩
    rw [hA'] at HNE5 HR5 ⊢
    have HO := HO5
    have HG3 := HG5
    have HB3 := HB5
    have HR := HR5
    have HNE := HNE5
    clear HO5 HG5 HB5 HR5 HNE5 hA' HO4 HG4 HB4 HW5 HS3 hlc d1
    obtain ⟨w3, rfl⟩ : ∃ w3 : World, w3 = w5 := ⟨_, rfl⟩
    go_loopw [5] (fun i wq => ∃ t : Nat, t ≤ S.length ∧ i = .int .i64 (t : Int) ∧ Hid (wq.heap[w.heap.size + 1]? = some (.cells (bv (S.take t ++ List.replicate (64 - t) 0)).toArray 102 (0, 0))) ∧ Hid (RdI wq .u8 A' S) ∧ Hid (Below (w.heap.size + 1) w3 wq)) (fun i _ => S.length - (intOf i).toNat)
    case atStart => exact ⟨0, Nat.zero_le _, rfl, HO, HR, Lib.hid (Below.refl _ _)⟩
    case round =>
      obtain ⟨t, ht, rfl, hg, hrs, hb8⟩ := hrel
      by_cases hts : t < S.length
      · have d0 : t < 64 := by have := HSL.out; omega
        have d1 : ((t : Int) < 64) := by omega
        have d2 : (t : Int) < 32 := by have := HSN.out; omega
        obtain ⟨sad, rfl, cl⟩ := hrs.out.at_ (j := t) hts
        obtain ⟨x, hx⟩ : ∃ x, S.getD t 0 = x := ⟨_, rfl⟩
        rw [hx] at cl
        have HX : Hid (S[t]? = some x) := Lib.hid (by rw [← hx]; simp [List.getD_eq_getElem?_getD, hts])
        have hl8 : (S.take t ++ List.replicate (64 - t) 0).length = 64 := by rw [List.length_append, List.length_take, List.length_replicate]; omega
        have cv := row_bv (j := t) hg.out (by omega)
        have fz := row_free hg.out
        clear hx hl8
        go_wp2
        go_roundw
        case rel => exact ⟨t + 1, by omega, by go_num, Lib.hid (by rw [← fill_set2 S 0 x t 64 d0 HX.out]; exact row_bset t x hg.out), Lib.hid (rdi_setCell hrs.out (HNE.out.resolve_left (fun h => by rw [h] at hts; simp at hts))), Lib.hid (bSg hb8.out (Nat.le_refl _) _)⟩
        case measure => simp [intOf]; omega
      · obtain rfl : t = S.length := by omega
        have d2 : ¬ ((S.length : Int) < 32) := by have := HSN.out; omega
        have hg' := hg.out
        rw [List.take_length, HK.out] at hg'
        have HG8 := Lib.hid hg'
        have HGW := Lib.hid ((hb8.out.block w.heap.size (by omega)).trans HG3.out)
        have HBE := Lib.hid (bTg HB3.out hb8.out (by omega))
        clear hg hg' hb8 ht hts hrs
        go_wp2_with (first | (refine wpList_load_row rfl 102 (.tmp 3) rfl (w.heap.size + 1) rfl 102 (bv KN).toArray (0, 0) _ HG8.out Try.underlying102 rfl ?_ ?_; (focus (rw [List.size_toArray, bv_len, HKL.out]; exact infoA64))) | (refine wpList_store_row rfl 102 (.tmp 2) _ rfl w.heap.size (bv KN).toArray rfl rfl 102 _ HGW.out ?_ ?_ (all_one (bv_one _)) ?_; (focus (rw [List.size_toArray, bv_len, HKL.out]; exact infoA64)); (focus (rw [List.size_toArray, bv_len, List.size_toArray, bv_len, HKL.out]; rfl))))
        refine bodyPost_ret (v := .agg (bv KN).toArray) (results_cell_row rfl _ _ w.heap.size 102 (bv KN).toArray (0, 0) _ rfl (setRow_heap _ _ _ _ _ _ HGW.out) Try.underlying102 rfl (by rw [List.size_toArray, bv_len, HKL.out]; exact infoA64)) rfl ⟨by rw [← HKN.out], setRow_below HBE.out (Nat.le_refl _)⟩
  · have HK : Hid (l ++ List.replicate (64 - l.length) 0 = KN) := Lib.hid (by rw [← HKN.out]; unfold keyN; rw [if_neg h64])
    have d1 : ¬ (64 : Int) < (l.length : Int) := by omega
    have HSL : Hid (l.length ≤ 64) := Lib.hid (by omega)
    have HSN : Hid ((l.length : Int) = (l.length : Int)) := Lib.hid rfl
    have HNE : Hid (l = [] ∨ ∀ ad, A = some ad → ad.block ≠ w.heap.size + 1) := Lib.hid (by
      rcases hr with h | ⟨a2, e2, hlt, _⟩
      · exact .inl h
      · exact .inr (fun ad e => by rw [e] at e2; rw [Option.some.inj e2]; omega))
    go_enter Try.func95, Try.ntmps95
    clear hl hr hb hlc
    go_wp2_with (first | (refine wpL_build rfl 102 _ rfl (bv (List.replicate 64 0)).toArray ?_ ?_; (focus (as_aux_lemma => kernel_rfl))) | (refine wpList_store_row rfl 102 _ _ rfl (w.heap.size + 1) (bv (List.replicate 64 0)).toArray rfl rfl 102 _ (heap_alloc2_new w _ _) infoA64 (by kernel_rfl) (all_one (bv_one _)) ?_; generalize hW2 : World.setRow _ _ _ = w22; obtain rfl : w3 = w22 := (by rw [← HW3.out, ← hq.out, ← hW2]; kernel_rfl)))
    clear d1
    obtain ⟨S, rfl⟩ : ∃ S, S = l := ⟨_, rfl⟩
    obtain ⟨A', rfl⟩ : ∃ A', A' = A := ⟨_, rfl⟩
    go_loopw [5] (fun i wq => ∃ t : Nat, t ≤ S.length ∧ i = .int .i64 (t : Int) ∧ Hid (wq.heap[w.heap.size + 1]? = some (.cells (bv (S.take t ++ List.replicate (64 - t) 0)).toArray 102 (0, 0))) ∧ Hid (RdI wq .u8 A' S) ∧ Hid (Below (w.heap.size + 1) w3 wq)) (fun i _ => S.length - (intOf i).toNat)
    case atStart => exact ⟨0, Nat.zero_le _, rfl, HO, HR, Lib.hid (Below.refl _ _)⟩
    case round =>
      obtain ⟨t, ht, rfl, hg, hrs, hb8⟩ := hrel
      by_cases hts : t < S.length
      · have d0 : t < 64 := by have := HSL.out; omega
        have d1 : ((t : Int) < 64) := by omega
        have d2 : (t : Int) < (S.length : Int) := by have := HSN.out; omega
        obtain ⟨sad, rfl, cl⟩ := hrs.out.at_ (j := t) hts
        obtain ⟨x, hx⟩ : ∃ x, S.getD t 0 = x := ⟨_, rfl⟩
        rw [hx] at cl
        have HX : Hid (S[t]? = some x) := Lib.hid (by rw [← hx]; simp [List.getD_eq_getElem?_getD, hts])
        have hl8 : (S.take t ++ List.replicate (64 - t) 0).length = 64 := by rw [List.length_append, List.length_take, List.length_replicate]; omega
        have cv := row_bv (j := t) hg.out (by omega)
        have fz := row_free hg.out
        clear hx hl8
        go_wp2
        go_roundw
        case rel => exact ⟨t + 1, by omega, by go_num, Lib.hid (by rw [← fill_set2 S 0 x t 64 d0 HX.out]; exact row_bset t x hg.out), Lib.hid (rdi_setCell hrs.out (HNE.out.resolve_left (fun h => by rw [h] at hts; simp at hts))), Lib.hid (bSg hb8.out (Nat.le_refl _) _)⟩
        case measure => simp [intOf]; omega
      · obtain rfl : t = S.length := by omega
        have d2 : ¬ ((S.length : Int) < (S.length : Int)) := by have := HSN.out; omega
        have hg' := hg.out
        rw [List.take_length, HK.out] at hg'
        have HG8 := Lib.hid hg'
        have HGW := Lib.hid ((hb8.out.block w.heap.size (by omega)).trans HG3.out)
        have HBE := Lib.hid (bTg HB3.out hb8.out (by omega))
        clear hg hg' hb8 ht hts hrs
        go_wp2_with (first | (refine wpList_load_row rfl 102 (.tmp 3) rfl (w.heap.size + 1) rfl 102 (bv KN).toArray (0, 0) _ HG8.out Try.underlying102 rfl ?_ ?_; (focus (rw [List.size_toArray, bv_len, HKL.out]; exact infoA64))) | (refine wpList_store_row rfl 102 (.tmp 2) _ rfl w.heap.size (bv KN).toArray rfl rfl 102 _ HGW.out ?_ ?_ (all_one (bv_one _)) ?_; (focus (rw [List.size_toArray, bv_len, HKL.out]; exact infoA64)); (focus (rw [List.size_toArray, bv_len, List.size_toArray, bv_len, HKL.out]; rfl))))
        refine bodyPost_ret (v := .agg (bv KN).toArray) (results_cell_row rfl _ _ w.heap.size 102 (bv KN).toArray (0, 0) _ rfl (setRow_heap _ _ _ _ _ _ HGW.out) Try.underlying102 rfl (by rw [List.size_toArray, bv_len, HKL.out]; exact infoA64)) rfl ⟨by rw [← HKN.out], setRow_below HBE.out (Nat.le_refl _)⟩

theorem map_take_succ {K : List Int} {t : Nat} {x b : Int} (hx : K[t]? = some x) : (K.take t).map (xorB · b) ++ [xorB x b] = (K.take (t + 1)).map (xorB · b) := by
  rw [List.take_add_one, hx]; simp
/-- An append onto one of two rows leaves the other. -/
theorem two_app {W w3 : World} {B e1 e2 n1 n2 : Nat} {v u v' : Value} {xs ys : List Value} (hv : W.ownsRow B e1 1 v n1 xs) (hu : W.ownsRow B e2 1 u n2 ys) (hne : v.ownBlock ≠ u.ownBlock)
    (hg : W.grownBy w3 v.ownBlock) (hb : v'.ownBlock = v.ownBlock ∨ v'.ownBlock = some W.heap.size) : w3.ownsRow B e2 1 u n2 ys ∧ v'.ownBlock ≠ u.ownBlock := by
  refine ⟨hu.kept hg (.inr hne.symm), ?_⟩
  rcases hb with h | h
  · rw [h]; exact hne
  · rw [h]
    intro e
    have := (hu.lt _ e.symm).2
    omega
theorem wpL_app_len {P : Program} {w : World} {ops : Array Oper} {rest : List Oper} {o : Oper} {a : Act} {Q : Exit → Act → World → Prop} {k : IntKind} (hgd : o.guard = none) (s x : Operand) (t : TypeId)
    (ho : o.op = .call { callee := .builtin .append, args := #[s, x], argTypes := #[t, t] })
    (base : Nat) (e : TypeId) (i : TypeInfo) (z : Value) (bytes : Nat) (ht : P.underlying t = some (.slice e)) (hi : P.info? e = some i) (hz : i.zero = some z)
    (hsize : i.size = 1) (hby : i.bytes = bytes) (hzs : z.cells.size = 1)
    (v : Value) (xs : List Int) (hs : a.eval s = v) (hown : w.ownsRow base e 1 v xs.length (xs.map (.int k)))
    (A : Option Addr) (c m : Nat) (ys : List Int) (hm : ys.length = m) (hx : a.eval x = .slice A m c) (hr : RdI w k A ys)
    (h63 : xs.length + m ≤ maxLen) (hbytes : (xs.length + m) * bytes ≤ 140737488355328) (hbase : base ≤ w.heap.size)
    (h : ∀ v' w', w'.ownsRow base e 1 v' (xs ++ ys).length ((xs ++ ys).map (.int k)) → w.grownBy w' v.ownBlock → (v'.ownBlock = v.ownBlock ∨ v'.ownBlock = some w.heap.size) → wpList P ops Q rest (a.put o.dst v') w') :
    wpList P ops Q (o :: rest) a w := by
  subst hm
  exact wpL_app hgd s x t ho base e i z bytes ht hi hz hsize hby hzs v xs hs hown A c ys hx hr h63 hbytes hbase h
set_option maxHeartbeats 8000000 in
theorem refTag3_any (A B : Option Addr) (c d : Nat) (s l : List Int) (w : World) (hr : RdI w .u8 A s) (hs : RdI w .u8 B l) (hsl : s.length ≤ 800000) (hsc : s.length ≤ c) (hl : l.length ≤ 800000) (hsb : ∀ x ∈ s, 0 ≤ x ∧ x < 256) (hlb : ∀ x ∈ l, 0 ≤ x ∧ x < 256) :
    Calls Try.prog 51 #[.slice A s.length c, .slice B l.length d] w fun e w' => e = .returned (.agg (bv (tagN s l)).toArray) ∧ Below w.heap.size w w' := by
  obtain ⟨i0, hi, hz0, hz1, hz2⟩ := info_parts infoB8
  obtain ⟨K, hK⟩ : ∃ K, keyN s = K := ⟨_, rfl⟩
  have hKl : K.length = 64 := by rw [← hK]; exact keyN_len s
  have hKb : ∀ x ∈ K, 0 ≤ x ∧ x < 256 := by rw [← hK]; exact keyN_byte hsb
  have HTE : Hid (tagN s l = sumN (K.map (xorB · 92) ++ sumN (K.map (xorB · 54) ++ l))) := Lib.hid (by unfold tagN sideN; rw [hK])
  have HKL := Lib.hid hKl
  have HKB := Lib.hid hKb
  have HK := Lib.hid hK
  clear hK hKl hKb
  obtain ⟨w0, hw0, g0, b0, z0⟩ := new_block w (.cells (bv (List.replicate 32 0)).toArray 42)
  go_enter Try.func51, Try.ntmps51
  go_wp2_with fail
  generalize hW0 : World.alloc _ _ = w00
  obtain rfl : w0 = w00 := by rw [← hw0, ← hW0]; kernel_rfl
  clear hw0 hW0
  refine (refKey_any A c s w0 (hr.below b0) hsl hsc hsb).mono ?_
  rintro e w1 ⟨rfl, b1⟩
  rw [HK.out]
  have HG1 := Lib.hid ((b1.block w.heap.size (by omega)).trans g0)
  have HB1 := Lib.hid (bT b0 b1)
  have HS1 := Lib.hid ((hs.below b0).below b1)
  have hz1' : w.heap.size < w1.heap.size := (Array.getElem?_eq_some_iff.1 HG1.out).1
  obtain ⟨w2, hw2, k2, b2, z2⟩ := newRow w1 (bv (List.replicate 64 0)).toArray (bv K).toArray 102
  have HW2 := Lib.hid hw2
  have HG2 := Lib.hid ((b2.block w.heap.size hz1').trans HG1.out)
  have HB2 := Lib.hid (bT HB1.out b2)
  have HS2 := Lib.hid (HS1.out.below b2)
  have HK2 := Lib.hid k2
  have HZ2 := Lib.hid z2
  clear hw2 k2 b0 b1 b2 g0 z0 z2 hr hs
  go_wp2_with (refine wpList_store_row rfl 102 _ _ rfl w1.heap.size (bv K).toArray rfl rfl 102 _ (heap_alloc_new w1 _) ?_ ?_ (all_one (bv_one _)) ?_; (focus (rw [List.size_toArray, bv_len, HKL.out]; exact infoA64)); (focus (show 64 = (bv K).toArray.size; rw [List.size_toArray, bv_len, HKL.out])); generalize hW2 : World.setRow _ _ _ = w22; obtain rfl : w2 = w22 := (by rw [← HW2.out, ← hW2]; kernel_rfl))
  have HI0 : Hid (((w2.alloc (.cells #[] 5)).alloc (.cells #[] 5)).ownsRow w2.heap.size 5 1 (.slice (some ⟨w2.heap.size, 0, none⟩) 0 0) ((K.take 0).map (xorB · 54)).length (((K.take 0).map (xorB · 54)).map (.int .u8))) := Lib.hid (by
    have q := (own_lit0 w2 5 .u8).alloc (.cells #[] 5)
    simpa using q)
  have HU0 : Hid (((w2.alloc (.cells #[] 5)).alloc (.cells #[] 5)).ownsRow w2.heap.size 5 1 (.slice (some ⟨w2.heap.size + 1, 0, none⟩) 0 0) ((K.take 0).map (xorB · 92)).length (((K.take 0).map (xorB · 92)).map (.int .u8))) := Lib.hid (by
    have q := own_base (own_lit0 (w2.alloc (.cells #[] 5)) 5 .u8) (base' := w2.heap.size) (by simp)
    simpa using q)
  have HBZ : Hid (Below w2.heap.size w2 ((w2.alloc (.cells #[] 5)).alloc (.cells #[] 5))) := Lib.hid (bA (bel1 w2 _) _)
  clear HW2
  generalize (w2.alloc (.cells #[] 5)).alloc (.cells #[] 5) = wz at *
  go_loopw [6, 7, 8] (fun v u i wr => ∃ t : Nat, t ≤ 64 ∧ i = .int .i64 (t : Int) ∧ Hid (wr.ownsRow w2.heap.size 5 1 v ((K.take t).map (xorB · 54)).length (((K.take t).map (xorB · 54)).map (.int .u8))) ∧ Hid (wr.ownsRow w2.heap.size 5 1 u ((K.take t).map (xorB · 92)).length (((K.take t).map (xorB · 92)).map (.int .u8))) ∧ Hid (v.ownBlock ≠ u.ownBlock) ∧ Hid (Below w2.heap.size w2 wr)) (fun _ _ i _ => 64 - (intOf i).toNat)
  case atStart => exact ⟨0, Nat.zero_le _, rfl, HI0, HU0, Lib.hid (by simp [Value.ownBlock]), HBZ⟩
  case round =>
    clear HI0 HU0 HBZ
    obtain ⟨t, ht, rfl, HI, HU, HNE, HB⟩ := hrel
    have HSZ := Lib.hid HB.out.size
    by_cases h64 : t < 64
    · have d1 : ((t : Int) < 64) := by omega
      have cv := row_bv (j := t) ((HB.out.block w1.heap.size (by have := HZ2.out; omega)).trans HK2.out) (by rw [HKL.out]; exact h64)
      obtain ⟨x, hx⟩ : ∃ x, K.getD t 0 = x := ⟨_, rfl⟩
      have hxb : 0 ≤ x ∧ x < 256 := HKB.out x (by rw [← hx]; exact getD_mem (by rw [HKL.out]; exact h64))
      have hX : K[t]? = some x := by rw [← hx]; simp [List.getD_eq_getElem?_getD, show t < K.length by rw [HKL.out]; exact h64]
      have HN1 := Lib.hid (map_take_succ (b := 54) hX)
      have HN2 := Lib.hid (map_take_succ (b := 92) hX)
      have A1 := xor8 hxb (show (0 : Int) ≤ 54 ∧ (54 : Int) < 256 by decide)
      have A2 := xor8 hxb (show (0 : Int) ≤ 92 ∧ (92 : Int) < 256 by decide)
      have HL1 : Hid (((K.take t).map (xorB · 54)).length ≤ 64) := Lib.hid (by rw [List.length_map, List.length_take]; omega)
      have HL2 : Hid (((K.take t).map (xorB · 92)).length ≤ 64) := Lib.hid (by rw [List.length_map, List.length_take]; omega)
      rw [hx] at cv
      have HXX := Lib.hid hx
      generalize xorB x 54 = y1 at *
      generalize xorB x 92 = y2 at *
      generalize (K.take t).map (xorB · 54) = D1 at *
      generalize (K.take t).map (xorB · 92) = D2 at *
      clear hx hX hxb
      go_wp2_with (first
        | (at_builtin; refine wpL_app (k := .u8) rfl (.tmp 18) (.tmp 23) 30 rfl w2.heap.size 5 i0 (.int .u8 0) 1 Try.underlying30 hi hz0 hz1 hz2 rfl _ D1 rfl (HI.out.alloc _) _ _ [y1] rfl (RdI.lit1 _ _ _ _) ?_ ?_ ?_ ?_; (focus (have := HL1.out; refine maxLen_ge ?_; simp only [List.length_cons, List.length_nil]; omega)); (focus (have := HL1.out; simp only [List.length_cons, List.length_nil]; omega)); (focus (have := HSZ.out; rw [World.size_alloc]; omega)); intro v3 w3 ho3 hg3 hk3; have hT := two_app (HI.out.alloc _) (HU.out.alloc _) HNE.out hg3 hk3; have HI3 := Lib.hid ho3; rw [HN1.out] at HI3; have HU3 := Lib.hid hT.1; have HNE3 := Lib.hid hT.2; have HB3 := Lib.hid ((HB.out.alloc HSZ.out (.cells #[.int .u8 y1] 5)).grown hg3 (by have := HSZ.out; rw [World.size_alloc]; omega) (own_ge HI.out)); have HSZ3 := Lib.hid HB3.out.size; have cv3 := row_bv (j := t) ((HB3.out.block w1.heap.size (by have := HZ2.out; omega)).trans HK2.out) (by rw [HKL.out]; exact h64); rw [HXX.out] at cv3; clear ho3 hg3 hk3 hT HI HU HNE HB)
        | (at_builtin; refine wpL_app (k := .u8) rfl (.tmp 25) (.tmp 30) 30 rfl w2.heap.size 5 i0 (.int .u8 0) 1 Try.underlying30 hi hz0 hz1 hz2 rfl _ D2 rfl (HU3.out.alloc _) _ _ [y2] rfl (RdI.lit1 _ _ _ _) ?_ ?_ ?_ ?_; (focus (have := HL2.out; refine maxLen_ge ?_; simp only [List.length_cons, List.length_nil]; omega)); (focus (have := HL2.out; simp only [List.length_cons, List.length_nil]; omega)); (focus (have := HSZ3.out; rw [World.size_alloc]; omega)); intro v4 w4 ho4 hg4 hk4; have hT := two_app (HU3.out.alloc _) (HI3.out.alloc _) HNE3.out.symm hg4 hk4; have HU4 := Lib.hid ho4; rw [HN2.out] at HU4; have HI4 := Lib.hid hT.1; have HNE4 := Lib.hid hT.2.symm; have HB4 := Lib.hid ((HB3.out.alloc HSZ3.out (.cells #[.int .u8 y2] 5)).grown hg4 (by have := HSZ3.out; rw [World.size_alloc]; omega) (own_ge HU3.out)); clear ho4 hg4 hk4 hT HI3 HU3 HNE3 HB3))
      go_roundw
      case rel => exact ⟨t + 1, by omega, by go_num, HI4, HU4, HNE4, HB4⟩
      case measure => simp [intOf]; omega
    · obtain rfl : t = 64 := by omega
      have hK64 : K.take 64 = K := List.take_of_length_le (by rw [HKL.out]; exact Nat.le_refl _)
      have hI := HI.out
      have hU := HU.out
      rw [hK64] at hI hU
      obtain ⟨D1, hD1⟩ : ∃ D, K.map (xorB · 54) = D := ⟨_, rfl⟩
      obtain ⟨D2, hD2⟩ : ∃ D, K.map (xorB · 92) = D := ⟨_, rfl⟩
      have hl1 : D1.length = 64 := by rw [← hD1, List.length_map]; exact HKL.out
      have hl2 : D2.length = 64 := by rw [← hD2, List.length_map]; exact HKL.out
      have hb1 : ∀ x ∈ D1, 0 ≤ x ∧ x < 256 := by
        rw [← hD1]; intro x hx; obtain ⟨y, hy, rfl⟩ := List.mem_map.1 hx; exact xorB_byte (HKB.out y hy) (by decide)
      have hb2 : ∀ x ∈ D2, 0 ≤ x ∧ x < 256 := by
        rw [← hD2]; intro x hx; obtain ⟨y, hy, rfl⟩ := List.mem_map.1 hx; exact xorB_byte (HKB.out y hy) (by decide)
      have hte := HTE.out
      rw [hD1, hD2] at hte
      rw [hD1] at hI
      rw [hD2] at hU
      have HT := Lib.hid hte
      have HI1 := Lib.hid hI
      have HU1 := Lib.hid hU
      have HL1 := Lib.hid hl1
      have HL2 := Lib.hid hl2
      have HD1 := Lib.hid hb1
      have HD2 := Lib.hid (show ∀ x ∈ D1 ++ l, 0 ≤ x ∧ x < 256 from fun x hx => (List.mem_append.1 hx).elim (hb1 x) (hlb x))
      have HD3 := Lib.hid hb2
      have HSl := HS2.out.below HB.out
      have HG := Lib.hid ((HB.out.block w.heap.size (by have := HZ2.out; omega)).trans HG2.out)
      have HBW := Lib.hid (bTg HB2.out HB.out (by have := HZ2.out; omega))
      clear hte hI hU hl1 hl2 hb1 hb2 hD1 hD2 hK64 HI HU HTE ht h64 hsb hlb hsl hsc
      simp only [Int.cast_ofNat_Int]
      go_wp2_with (at_builtin; go_loud (refine wpL_app (k := .u8) rfl (.tmp 32) (.tmp 33) 30 rfl w2.heap.size 5 i0 (.int .u8 0) 1 Try.underlying30 hi hz0 hz1 hz2 rfl _ D1 rfl HI1.out _ _ l rfl HSl ?_ ?_ ?_ ?_; (focus (have := HL1.out; exact maxLen_ge (by omega))); (focus (have := HL1.out; omega)); (focus (have := HSZ.out; omega)); intro v5 w5 ho5 hg5 hk5; have hT := two_app HI1.out HU1.out HNE.out hg5 hk5; have HI5 := Lib.hid ho5; have HU5 := Lib.hid hT.1; have HNE5 := Lib.hid hT.2; have HB5 := Lib.hid (HB.out.grown hg5 (by have := HSZ.out; omega) (own_ge HI1.out)); clear ho5 hg5 hk5 hT HI1 HU1 HNE HB HSl))
      obtain ⟨A5, c5, rfl, hc5, _⟩ := own_slice HI5.out
      have hr5 := RdI.of_own HI5.out
      refine (refSum_any A5 c5 (D1 ++ l) w5 hr5 (by rw [List.length_append, HL1.out]; omega) HD2.out).mono ?_
      rintro e w6 ⟨rfl, hb6⟩
      obtain ⟨S, hS⟩ : ∃ S, sumN (D1 ++ l) = S := ⟨_, rfl⟩
      have hSl : S.length = 32 := by rw [← hS]; exact sumN_len _
      have hSb : ∀ x ∈ S, 0 ≤ x ∧ x < 256 := by rw [← hS]; exact sumN_byte _
      have hT := HT.out
      rw [hS] at hT ⊢
      have HT := Lib.hid hT
      have HS := Lib.hid hSl
      have HSB := Lib.hid hSb
      have hz5 := HB5.out.size
      have HU6 := Lib.hid (own_below HU5.out hb6)
      have HB6 := Lib.hid (bTg HB5.out hb6 hz5)
      obtain ⟨w7, hw7, g7, hb7, hz7⟩ := newRow w6 (bv (List.replicate 32 0)).toArray (bv S).toArray 42
      have HU7 := Lib.hid (own_below HU6.out hb7)
      have HB7 := Lib.hid (bTg HB6.out hb7 (by have := HB6.out.size; omega))
      have HR7 := Lib.hid (rd_row g7)
      have HW7 := Lib.hid hw7
      have HSZ7 := Lib.hid HB7.out.size
      clear hS hSl hSb hT hb6 hw7 g7 hb7 hz7 hz5 hr5 HB5 HU5 HNE5
      go_wp2_with (first | (refine wpList_store_row rfl 42 _ _ rfl w6.heap.size (bv S).toArray rfl rfl 42 _ (heap_alloc_new w6 _) ?_ ?_ (all_one (bv_one _)) ?_; (focus (rw [List.size_toArray, bv_len, HS.out]; exact info32)); (focus (show 32 = (bv S).toArray.size; rw [List.size_toArray, bv_len, HS.out])); generalize hW3 : World.setRow _ _ _ = w33; obtain rfl : w7 = w33 := (by rw [← HW7.out, ← hW3]; kernel_rfl)) | (at_builtin; go_loud (refine wpL_app_len (k := .u8) rfl (.tmp 36) (.tmp 37) 30 rfl w2.heap.size 5 i0 (.int .u8 0) 1 Try.underlying30 hi hz0 hz1 hz2 rfl _ D2 rfl HU7.out _ _ 32 S HS.out rfl HR7.out ?_ ?_ ?_ ?_; (focus (have := HL2.out; exact maxLen_ge (by omega))); (focus (have := HL2.out; omega)); (focus (have := HSZ7.out; omega)); intro v8 w8 ho8 hg8 hk8; have HU8 := Lib.hid ho8; have HB8 := Lib.hid (HB7.out.grown hg8 (by have := HSZ7.out; omega) (own_ge HU7.out)); clear ho8 hg8 hk8)))
      obtain ⟨A8, c8, rfl, hc8, _⟩ := own_slice HU8.out
      have hr8 := RdI.of_own HU8.out
      refine (refSum_any A8 c8 (D2 ++ S) w8 hr8 (by rw [List.length_append, HL2.out, HS.out]; decide) (fun x hx => (List.mem_append.1 hx).elim (HD3.out x) (HSB.out x))).mono ?_
      rintro e w9 ⟨rfl, hb9⟩
      obtain ⟨T, hT⟩ : ∃ T, sumN (D2 ++ S) = T := ⟨_, rfl⟩
      have hTl : T.length = 32 := by rw [← hT]; exact sumN_len _
      have hTE : tagN s l = T := by rw [HT.out, hT]
      have HTL := Lib.hid hTl
      have HTF := Lib.hid hTE
      rw [hT]
      have hz8 := HB8.out.size
      have HB9 := Lib.hid (bTg HB8.out hb9 hz8)
      have HG9 := Lib.hid ((HB9.out.block w.heap.size (by have := HZ2.out; omega)).trans HG2.out)
      have HBE := Lib.hid (bTg HB2.out HB9.out (by have := HZ2.out; omega))
      clear hT hTl hTE hb9 hz8 hr8
      go_wp2_with (refine wpList_store_row rfl 42 (.tmp 4) _ rfl w.heap.size (bv T).toArray rfl rfl 42 _ HG9.out ?_ ?_ (all_one (bv_one _)) ?_; (focus (rw [List.size_toArray, bv_len, HTL.out]; exact info32)); (focus (rw [List.size_toArray, bv_len, List.size_toArray, bv_len, HTL.out]; rfl)))
      refine bodyPost_ret (v := .agg (bv T).toArray) (results_cell_row rfl _ _ w.heap.size 42 (bv T).toArray (0, 0) _ rfl (setRow_heap _ _ _ _ _ _ HG9.out) Try.underlying42 rfl (by rw [List.size_toArray, bv_len, HTL.out]; exact info32)) rfl ⟨by rw [← HTF.out], setRow_below HBE.out (Nat.le_refl _)⟩
end Go.Proofs.Ytachkhjbckapoaa

namespace Go.Proofs.Ytachkhjbckapoaa
open Go.RowKit
set_option linter.unusedVariables false
set_option maxRecDepth 100000

/-- What an outermost loop's record is. -/
def recOf (fn : FuncId) (a : Act) (ps : Array Tmp) (assign body : Code) (D : Nat) (st : LoopState) (pe : Option Code) : Loop :=
  { state := st, pending := pe, fn, tmps := a.tmps, params := ps, assign, body, defers := D }

/-- Behind the iterator: the loop's record is shut, and the pending jump, if any, is taken up. -/
def behind (P : Program) (n : Nat) (Q : Exit → Act → World → Prop) (a' : Act) (l : Nat) (r : Option Code → Loop) (W : World) : Option Code → Prop
  | none => Q .normal a' (W.putObj l (.loop { r none with state := .exhausted }))
  | some j => j.wpIn Fence.wide n P Q a' (W.putObj l (.loop { r (some j) with state := .exhausted }))

theorem my_range {P : Program} {n : Nat} {g : Operand} {ps : Array Tmp} {assign body : Code} {Q : Exit → Act → World → Prop} {a : Act} {w : World} {gf : Nat} {lb : Array Value}
    (hg : a.eval g = .func (.func gf) #[] lb) (eg : ∀ args w, (callFunc gf args).run P w = .ok (.enter gf args) w)
    (h : ∀ fn, CallsIn Fence.wide (n - 1) P gf (#[.func (.yield (w.heap.size + 1)) #[] #[]] ++ lb) ((w.alloc (.deferred (some []))).alloc (.loop (recOf fn a ps assign body w.heap.size .ready none)))
      fun e W' => ∃ v c, e = .returned v ∧ W'.heap[w.heap.size + 1]? = some (.loop (recOf fn a ps assign body w.heap.size (if c.isNone then .ready else .done) c)) ∧
        behind P n Q { a with defers := { target := .collected w.heap.size, args := #[] } :: a.defers } (w.heap.size + 1) (fun c => recOf fn a ps assign body w.heap.size (if c.isNone then .ready else .done) c) W' c) :
    (Code.rangeFunc g ps assign body).wpIn Fence.wide n P Q a w := by
  refine wpIn_rangeFunc ?_
  intro fn _
  obtain ⟨W1, hW1⟩ : ∃ W1, (w.alloc (.deferred (some []))).alloc (.loop (recOf fn a ps assign body w.heap.size .ready none)) = W1 := ⟨_, rfl⟩
  refine ⟨w.heap.size + 1, [{ target := .collected w.heap.size, args := #[] }], W1, { target := .fn (.func gf) lb, args := #[.func (.yield (w.heap.size + 1)) #[] #[]] }, W1, gf,
    #[.func (.yield (w.heap.size + 1)) #[] #[]] ++ lb, W1, ?_, ?_, ?_, ?_, (fun hd => by cases hd), ?_⟩
  · rw [← hW1]; exact run_enterLoop_outer _ _ _ _ _
  · simp only [resolve, hg]
    simp [go_sem]
  · intro f' _; trivial
  · simp [invoke, go_sem, eg]
  · rw [← hW1]
    refine (h fn).mono ?_
    rintro e W' ⟨v, c, rfl, hl, hb⟩
    have hne : (recOf fn a ps assign body w.heap.size (if c.isNone then .ready else .done) c).state ≠ .busy := by cases c <;> simp [recOf]
    refine ⟨c, _, by have := run_endLoop (P := P) hl hne; simpa [recOf] using this, ?_⟩
    cases c with
    | none => exact hb
    | some j => exact hb

theorem my_round {P : Program} {F : Fence} {m l : Nat} {r : Loop} {W : World} {args : Array Value} {R : Ending → World → Prop} {a₁ : Act} (hF : F.fn r.fn)
    (hl : W.heap[l]? = some (.loop r)) (hr : r.state = .ready) (hs : args.size = r.params.size)
    (hA : ∀ K : Act → World → Prop, K a₁ W → r.assign.wpIn (F.inRound l) m P (Exit.then K (fun _ _ _ => False)) { tmps := (r.params.zip args).foldl (fun t (p, v) => t.setIfInBounds p v) r.tmps, defers := [] } W)
    (hB : r.body.wpIn (F.inRound l) m P (roundPost P l R) a₁ (W.putObj l (.loop { r with state := .busy }))) :
    YieldAt F m P l args W R :=
  ⟨r.fn, _, r.assign, r.body, run_yield hl hs, roundIn_of_wpIn hF (hA _ ⟨_, run_beginRound hl hr, hB⟩)⟩
/-- How a round of mine may be left. -/
def roundK (B : Nat) (Kp : World → World → Prop) (I : Nat → World → Prop) (Ix : World → Prop) (k : Nat) (W : World) : Exit → Act → World → Prop
  | .normal, _, W' => KeepsFrom B W W' ∧ Kp W W' ∧ I k W'
  | .ret, _, W' => KeepsFrom B W W' ∧ Ix W'
  | .exit _, _, _ => False
  | .goto _, _, _ => False
  | .panic _, _, _ => False
  | .outgrown, _, _ => False

/-- THE LAW FOR MY LOOPS: the rounds are counted; the iterator may hold state in cells of its own (Kp: what a round keeps of it); what it owes is said of any J that speaks of my I and of blocks that are no cells. -/
theorem my_seq {P : Program} {n : Nat} {g : Operand} {ps : Array Tmp} {assign body : Code} {Q : Exit → Act → World → Prop} {a : Act} {w : World} {gf : Nat} {lb : Array Value}
    (hg : a.eval g = .func (.func gf) #[] lb) (eg : ∀ args w, (callFunc gf args).run P w = .ok (.enter gf args) w) (N : Nat)
    (Kp : World → World → Prop) (hKt : ∀ {A B C : World}, Kp A B → Kp B C → Kp A C) (hKb : ∀ (W : World) (l : Nat) (o o' : Obj), w.heap.size ≤ l → W.heap[l]? = some o → o.isCells = false → Kp W (W.putObj l o'))
    (I : Nat → World → Prop) (Ix : World → Prop) (hI : OwnFrom w.heap.size I) (hIx : OwnFrom w.heap.size (fun (_ : Unit) => Ix)) (h0 : I 0 w)
    (hseq : ∀ (L : Nat) (J : Nat → World → Prop) (Jx : World → Prop) (W1 : World), (∀ k W, J k W → I k W) → (∀ k W p v, J k W → I k (W.setCell p v) → J k (W.setCell p v)) →
      (∀ (k : Nat) (args : Array Value) (W : World), args.size = ps.size → J k W → (∃ a₁ : Act, (∀ (W : World) (K : Act → World → Prop), K a₁ W → assign.wpIn (Fence.wide.inRound L) (n - 1 - 1) P (Exit.then K (fun _ _ _ => False)) { tmps := (ps.zip args).foldl (fun t (p, v) => t.setIfInBounds p v) a.tmps, defers := [] } W) ∧
          ∀ Wb, I k Wb → Kp W Wb → body.wpIn (Fence.wide.inRound L) (n - 1 - 1) P (roundK w.heap.size Kp I Ix (k + 1) Wb) a₁ Wb) →
        YieldAt Fence.wide (n - 1 - 1) P L args W fun e W' => (e = .returned (.bool true) ∧ J (k + 1) W' ∧ Kp W W') ∨ (e = .returned (.bool false) ∧ Jx W')) →
      J 0 W1 → Below w.heap.size w W1 → CallsIn Fence.wide (n - 1) P gf (#[.func (.yield L) #[] #[]] ++ lb) W1 fun e W' => (∃ v, e = .returned v) ∧ (J N W' ∨ Jx W'))
    (hdone : ∀ (D : Nat) (W : World), w.heap.size ≤ D → I N W → W.heap[D]? = some (.deferred (some [])) → Q .normal { a with defers := { target := .collected D, args := #[] } :: a.defers } W)
    (hstop : ∀ (D : Nat) (W : World), w.heap.size ≤ D → Ix W → W.heap[D]? = some (.deferred (some [])) → Code.ret.wpIn Fence.wide n P Q { a with defers := { target := .collected D, args := #[] } :: a.defers } W) :
    (Code.rangeFunc g ps assign body).wpIn Fence.wide n P Q a w := by
  refine my_range hg eg ?_
  intro fn
  obtain ⟨rec, hrec⟩ : ∃ rec : LoopState → Option Code → Loop, rec = fun st pe => recOf fn a ps assign body w.heap.size st pe := ⟨_, rfl⟩
  obtain ⟨W1, hW1⟩ : ∃ W1, (w.alloc (.deferred (some []))).alloc (.loop (rec .ready none)) = W1 := ⟨_, rfl⟩
  have hL1 : W1.heap[w.heap.size + 1]? = some (.loop (rec .ready none)) := by
    rw [← hW1]; have := World.alloc_heap_new (w.alloc (.deferred (some []))) (.loop (rec .ready none)); rwa [World.size_alloc] at this
  have hK1 : W1.heap[w.heap.size]? = some (.deferred (some [])) := by
    rw [← hW1]; exact (Below.heap_alloc _ _ _ (by simp)).trans (World.alloc_heap_new w _)
  have hI1 : I 0 W1 := by rw [← hW1]; exact hI.alloc _ (hI.alloc _ h0)
  have hb1 : Below w.heap.size w W1 := by
    rw [← hW1]; exact ((Below.refl _ w).alloc (Nat.le_refl _) _).alloc (by simp) _
  have e1 : (w.alloc (.deferred (some []))).alloc (.loop (recOf fn a ps assign body w.heap.size .ready none)) = W1 := by rw [← hW1, hrec]
  rw [e1]
  refine (hseq (w.heap.size + 1)
    (fun k W => I k W ∧ W.heap[w.heap.size + 1]? = some (.loop (rec .ready none)) ∧ W.heap[w.heap.size]? = some (.deferred (some [])))
    (fun W => Ix W ∧ W.heap[w.heap.size + 1]? = some (.loop (rec .done (some .ret))) ∧ W.heap[w.heap.size]? = some (.deferred (some [])))
    W1 (fun k W h => h.1) ?_ ?_ ⟨hI1, hL1, hK1⟩ hb1).mono ?_
  · rintro k W p v ⟨_, hl, hk⟩ hi
    exact ⟨hi, (KeepsOthers.setCell W p v).same _ _ hl rfl, (KeepsOthers.setCell W p v).same _ _ hk rfl⟩
  · rintro k args W hs ⟨hi, hl, hk⟩ ⟨a₁, hA, hB⟩
    have hlt : w.heap.size + 1 < W.heap.size := (Array.getElem?_eq_some_iff.1 hl).1
    have hl' := hl
    rw [hrec] at hl'
    refine my_round (a₁ := a₁) trivial hl' rfl hs (fun K hK => hA W K hK) ?_
    have ebusy : (Obj.loop { recOf fn a ps assign body w.heap.size .ready none with state := .busy }) = .loop { rec .ready none with state := .busy } := by rw [hrec]
    rw [ebusy]
    have hl2 : (W.putObj (w.heap.size + 1) (.loop { rec .ready none with state := .busy })).heap[w.heap.size + 1]? = some (.loop { rec .ready none with state := .busy }) := World.putObj_heap_same hlt
    have hk2 : (W.putObj (w.heap.size + 1) (.loop { rec .ready none with state := .busy })).heap[w.heap.size]? = some (.deferred (some [])) := (World.putObj_heap_other (by omega)).trans hk
    have hw2 : Kp W (W.putObj (w.heap.size + 1) (.loop { rec .ready none with state := .busy })) := hKb _ _ _ _ (by omega) hl rfl
    refine wpIn_mono (hB _ (hI.putObj _ hi (by omega) hl rfl) hw2) ?_
    have fin : ∀ (jump : Option Code) (W3 : World), KeepsFrom w.heap.size (W.putObj (w.heap.size + 1) (.loop { rec .ready none with state := .busy })) W3 →
        (Instr.endRound (w.heap.size + 1) jump).run P W3 = .ok (.bool jump.isNone) (W3.putObj (w.heap.size + 1) (.loop (rec (if jump.isNone then .ready else .done) jump))) ∧
        W3.heap[w.heap.size + 1]? = some (.loop { rec .ready none with state := .busy }) ∧
        (W3.putObj (w.heap.size + 1) (.loop (rec (if jump.isNone then .ready else .done) jump))).heap[w.heap.size + 1]? = some (.loop (rec (if jump.isNone then .ready else .done) jump)) ∧
        (W3.putObj (w.heap.size + 1) (.loop (rec (if jump.isNone then .ready else .done) jump))).heap[w.heap.size]? = some (.deferred (some [])) := fun jump W3 hk3 => by
      have hl3 := hk3.same _ _ (by omega) hl2 rfl
      have := run_endRound (P := P) jump hl3
      rw [hrec] at this ⊢
      exact ⟨this, by rw [hrec] at hl3; exact hl3, World.putObj_heap_same (Array.getElem?_eq_some_iff.1 hl3).1, (World.putObj_heap_other (by omega)).trans (hk3.same _ _ (Nat.le_refl _) hk2 rfl)⟩
    rintro e a3 W3 hp
    cases e with
    | normal =>
      obtain ⟨hk3, hkp3, hi3⟩ := hp
      obtain ⟨hr, hl3, hl4, hk4⟩ := fin none W3 hk3
      exact ⟨_, _, hr, .inl ⟨rfl, ⟨hI.putObj _ hi3 (by omega) hl3 rfl, hl4, hk4⟩, hKt (hKt hw2 hkp3) (hKb _ _ _ _ (by omega) hl3 rfl)⟩⟩
    | ret =>
      obtain ⟨hk3, hi3⟩ := hp
      obtain ⟨hr, hl3, hl4, hk4⟩ := fin (some .ret) W3 hk3
      exact ⟨_, _, hr, .inr ⟨rfl, hIx.putObj (s := ()) _ hi3 (by omega) hl3 rfl, hl4, hk4⟩⟩
    | exit id => exact hp.elim
    | goto t => exact hp.elim
    | panic ch => exact hp.elim
    | outgrown => exact hp.elim
  · rintro e W2 ⟨⟨v, rfl⟩, (⟨hi, hl, hk⟩ | ⟨hi, hl, hk⟩)⟩
    · refine ⟨v, none, rfl, by rw [hrec] at hl; exact hl, ?_⟩
      exact hdone _ _ (Nat.le_refl _) (hI.putObj _ hi (by omega) hl rfl) ((World.putObj_heap_other (by omega)).trans hk)
    · refine ⟨v, some .ret, rfl, by rw [hrec] at hl; exact hl, ?_⟩
      exact hstop _ _ (Nat.le_refl _) (hIx.putObj (s := ()) _ hi (by omega) hl rfl) ((World.putObj_heap_other (by omega)).trans hk)
theorem loadVar_plain {P : Program} {t : TypeId} {d : TypeDesc} (hu : P.underlying t = some d) (hd : (match d with | .struct _ | .array _ _ => true | _ => false) = false) {w : World} {p : Addr} {v : Value} (hc : w.cell? p = some v) : (loadVar t p).run P w = .ok v w := by
  unfold loadVar
  rw [Sem.run_bind, run_isAgg_plain hu hd]
  simp only [Result.andThen, Bool.false_eq_true, if_false]
  rw [run_load, hc]
theorem results_cell2 {P : Program} {fn : Func} {t u : Tmp} {T U : TypeId} (h : fn.results = #[.cell t T, .cell u U]) {dT dU : TypeDesc} (hT : P.underlying T = some dT) (hU : P.underlying U = some dU)
    (pT : (match dT with | .struct _ | .array _ _ => true | _ => false) = false) (pU : (match dU with | .struct _ | .array _ _ => true | _ => false) = false)
    {tmps : Array Value} {p q : Addr} (hp : tmps.getD t undef = .pointer (some p)) (hq : tmps.getD u undef = .pointer (some q)) {w : World} {v1 v2 : Value} (h1 : w.cell? p = some v1) (h2 : w.cell? q = some v2) :
    (results fn tmps).run P w = .ok (.tuple #[v1, v2]) w := by
  simp only [results, h, Array.mapM_eq_mapM_toList, List.mapM_cons, List.mapM_nil]
  simp [Sem.run_bind, hp, hq, asAddr, loadVar_plain hT pT h1, loadVar_plain hU pU h2, Result.andThen]
end Go.Proofs.Ytachkhjbckapoaa

namespace Go.Proofs.Ytachkhjbckapoaa
open Go.RowKit
set_option linter.unusedVariables false
set_option maxRecDepth 100000
set_option linter.unusedSimpArgs false

def S45 : List Int := [48, 49, 50, 51, 52, 53, 54, 55, 56, 57, 65, 66, 67, 68, 69, 70, 71, 72, 73, 74, 75, 76, 77, 78, 79, 80, 81, 82, 83, 84, 85, 86, 87, 88, 89, 90, 32, 36, 37, 42, 43, 45, 46, 47, 58]
/-- The sign of a number. -/
def sg45 (n : Int) : Int := S45.getD n.toNat 0
def dgGo (c : Int) : List Int → Int → Int
  | [], _ => -1
  | x :: l, k => if x = c then k else dgGo c l (k + 1)
/-- The number of a sign; -1, if it is none. -/
def dg45 (c : Int) : Int := dgGo c S45 0
def fortyPut : List Int → List Int
  | [] => []
  | [x] => [sg45 (x % 45), sg45 (x / 45)]
  | x :: y :: t => sg45 ((256 * x + y) % 45) :: sg45 ((256 * x + y) / 45 % 45) :: sg45 ((256 * x + y) / 45 / 45) :: fortyPut t
def bad3 (a b c : Int) : Bool := decide (dg45 a < 0) || decide (dg45 b < 0) || decide (dg45 c < 0)
def bad2 (a b : Int) : Bool := decide (dg45 a < 0) || decide (dg45 b < 0)
def n3 (a b c : Int) : Int := dg45 a + 45 * dg45 b + 2025 * dg45 c
def n2 (a b : Int) : Int := dg45 a + 45 * dg45 b
def fortyGo : List Int → List Int → List Int × Int
  | [], acc => (acc, 0)
  | [_], _ => ([], 14)
  | [a, b], acc => if bad2 a b then ([], 7) else if 255 < n2 a b then ([], 23) else (acc ++ [n2 a b], 0)
  | a :: b :: c :: t, acc => if bad3 a b c then ([], 7) else if 65535 < n3 a b c then ([], 23) else fortyGo t (acc ++ [n3 a b c / 256, n3 a b c % 256])
def fortyGet (s : List Int) : List Int × Int := if s.length % 3 = 1 then ([], 14) else fortyGo s []

theorem sg_dg : ∀ n : Fin 45, dg45 (sg45 (n.val : Int)) = (n.val : Int) := by decide
theorem sg_dg' {n : Int} (h0 : 0 ≤ n) (h : n < 45) : dg45 (sg45 n) = n := by
  have := sg_dg ⟨n.toNat, by omega⟩
  simpa [show ((n.toNat : Nat) : Int) = n by omega] using this
theorem dgGo_sg : ∀ (l : List Int) (c k : Int), 0 ≤ k → dgGo c l k < 0 ∨ (k ≤ dgGo c l k ∧ dgGo c l k < k + l.length ∧ l.getD (dgGo c l k - k).toNat 0 = c)
  | [], c, k, h => .inl (by simp [dgGo])
  | x :: l, c, k, h => by
    unfold dgGo
    by_cases e : x = c
    · rw [if_pos e]; right; refine ⟨by omega, by simp; omega, by simp [e]⟩
    · rw [if_neg e]
      rcases dgGo_sg l c (k + 1) (by omega) with h | ⟨h1, h2, h3⟩
      · exact .inl h
      · right
        refine ⟨by omega, by simp; omega, ?_⟩
        obtain ⟨m, hm⟩ : ∃ m : Nat, dgGo c l (k + 1) - (k + 1) = m := ⟨(dgGo c l (k + 1) - (k + 1)).toNat, by omega⟩
        have e2 : (dgGo c l (k + 1) - k).toNat = m + 1 := by omega
        rw [e2, List.getD_cons_succ, ← h3, hm]; simp
theorem dg_sg {c : Int} (h : ¬ dg45 c < 0) : sg45 (dg45 c) = c ∧ 0 ≤ dg45 c ∧ dg45 c < 45 := by
  rcases dgGo_sg S45 c 0 (by omega) with h' | ⟨h1, h2, h3⟩
  · exact absurd h' h
  · refine ⟨?_, h1, ?_⟩
    · unfold sg45; unfold dg45; simpa using h3
    · have : S45.length = 45 := by decide
      unfold dg45; omega
theorem dg_le (c : Int) : dg45 c < 45 := by
  by_cases h : dg45 c < 0
  · omega
  · exact (dg_sg h).2.2
theorem sg_byte (n : Int) : 0 ≤ sg45 n ∧ sg45 n < 256 := by
  unfold sg45
  have h : ∀ x ∈ S45, 0 ≤ x ∧ x < 256 := by decide
  rw [List.getD_eq_getElem?_getD]
  cases e : S45[n.toNat]? with
  | none => simp
  | some x => simpa using h x (List.mem_of_getElem? e)

theorem fortyPut_byte : ∀ (l : List Int), ∀ x ∈ fortyPut l, 0 ≤ x ∧ x < 256
  | [], x, h => by simp [fortyPut] at h
  | [y], x, h => by simp [fortyPut] at h; rcases h with rfl | rfl <;> exact sg_byte _
  | y :: z :: t, x, h => by
    simp only [fortyPut, List.mem_cons] at h
    rcases h with rfl | rfl | rfl | h
    · exact sg_byte _
    · exact sg_byte _
    · exact sg_byte _
    · exact fortyPut_byte t x h
theorem fortyPut_len : ∀ (l : List Int), (fortyPut l).length = l.length + (l.length + 1) / 2
  | [] => by simp [fortyPut]
  | [y] => by simp [fortyPut]
  | y :: z :: t => by simp only [fortyPut, List.length_cons, fortyPut_len t]; omega
theorem n3_of {x y : Int} (hx : 0 ≤ x ∧ x < 256) (hy : 0 ≤ y ∧ y < 256) : bad3 (sg45 ((256 * x + y) % 45)) (sg45 ((256 * x + y) / 45 % 45)) (sg45 ((256 * x + y) / 45 / 45)) = false ∧ n3 (sg45 ((256 * x + y) % 45)) (sg45 ((256 * x + y) / 45 % 45)) (sg45 ((256 * x + y) / 45 / 45)) = 256 * x + y := by
  have e1 := sg_dg' (n := (256 * x + y) % 45) (by omega) (by omega)
  have e2 := sg_dg' (n := (256 * x + y) / 45 % 45) (by omega) (by omega)
  have e3 := sg_dg' (n := (256 * x + y) / 45 / 45) (by omega) (by omega)
  unfold bad3 n3
  rw [e1, e2, e3]
  refine ⟨?_, by omega⟩
  simp only [Bool.or_eq_false_iff, decide_eq_false_iff_not]
  omega
theorem n2_of {x : Int} (hx : 0 ≤ x ∧ x < 256) : bad2 (sg45 (x % 45)) (sg45 (x / 45)) = false ∧ n2 (sg45 (x % 45)) (sg45 (x / 45)) = x := by
  have e1 := sg_dg' (n := x % 45) (by omega) (by omega)
  have e2 := sg_dg' (n := x / 45) (by omega) (by omega)
  unfold bad2 n2
  rw [e1, e2]
  refine ⟨?_, by omega⟩
  simp only [Bool.or_eq_false_iff, decide_eq_false_iff_not]
  omega
theorem fortyGo_put : ∀ (l acc : List Int), (∀ x ∈ l, 0 ≤ x ∧ x < 256) → fortyGo (fortyPut l) acc = (acc ++ l, 0)
  | [], acc, h => by simp [fortyPut, fortyGo]
  | [x], acc, h => by
    obtain ⟨e1, e2⟩ := n2_of (h x (by simp))
    have hx := h x (by simp)
    simp only [fortyPut, fortyGo]
    rw [e1, e2]
    simp; omega
  | x :: y :: t, acc, h => by
    have hx := h x (by simp)
    have hy := h y (by simp)
    obtain ⟨e1, e2⟩ := n3_of hx hy
    have ih := fortyGo_put t (acc ++ [x, y]) (fun z hz => h z (by simp [hz]))
    simp only [fortyPut, fortyGo]
    rw [e1, e2]
    have d1 : (256 * x + y) / 256 = x := by omega
    have d2 : (256 * x + y) % 256 = y := by omega
    rw [d1, d2, ih, if_neg (by simp), if_neg (by omega)]
    simp
/-- What was put is got again. -/
theorem fortyGet_put {l : List Int} (h : ∀ x ∈ l, 0 ≤ x ∧ x < 256) : fortyGet (fortyPut l) = (l, 0) := by
  unfold fortyGet
  rw [if_neg (by rw [fortyPut_len]; omega), fortyGo_put l [] h]
  simp
theorem fortyGo_ok : ∀ (s acc l : List Int), fortyGo s acc = (l, 0) → ∃ m, l = acc ++ m ∧ fortyPut m = s ∧ (∀ x ∈ m, 0 ≤ x ∧ x < 256)
  | [], acc, l, h => by simp [fortyGo] at h; exact ⟨[], by simp [h], rfl, by simp⟩
  | [_], acc, l, h => by simp [fortyGo] at h
  | [a, b], acc, l, h => by
    simp only [fortyGo] at h
    cases hb : bad2 a b with
    | true => rw [hb] at h; simp at h
    | false =>
      rw [hb] at h
      by_cases h2 : 255 < n2 a b
      · simp [h2] at h
      · simp [h2] at h
        unfold bad2 at hb
        simp only [Bool.or_eq_false_iff, decide_eq_false_iff_not] at hb
        obtain ⟨a1, a2, a3⟩ := dg_sg hb.1
        obtain ⟨b1, b2, b3⟩ := dg_sg hb.2
        refine ⟨[n2 a b], h.symm, ?_, ?_⟩
        · unfold n2
          simp only [fortyPut]
          rw [show (dg45 a + 45 * dg45 b) % 45 = dg45 a by omega, show (dg45 a + 45 * dg45 b) / 45 = dg45 b by omega, a1, b1]
        · intro x hx; simp at hx; subst hx; unfold n2 at *; omega
  | a :: b :: c :: t, acc, l, h => by
    simp only [fortyGo] at h
    cases hb : bad3 a b c with
    | true => rw [hb] at h; simp at h
    | false =>
      rw [hb] at h
      by_cases h2 : 65535 < n3 a b c
      · simp [h2] at h
      · simp only [Bool.false_eq_true, if_false, h2] at h
        obtain ⟨m, hm, hp, hq⟩ := fortyGo_ok t _ l h
        unfold bad3 at hb
        simp only [Bool.or_eq_false_iff, decide_eq_false_iff_not] at hb
        obtain ⟨a1, a2, a3⟩ := dg_sg hb.1.1
        obtain ⟨b1, b2, b3⟩ := dg_sg hb.1.2
        obtain ⟨c1, c2, c3⟩ := dg_sg hb.2
        have n0 : 0 ≤ n3 a b c := by unfold n3; omega
        refine ⟨n3 a b c / 256 :: n3 a b c % 256 :: m, by simp [hm], ?_, ?_⟩
        · simp only [fortyPut]
          have e : 256 * (n3 a b c / 256) + n3 a b c % 256 = n3 a b c := by omega
          rw [e, hp]
          unfold n3
          rw [show (dg45 a + 45 * dg45 b + 2025 * dg45 c) % 45 = dg45 a by omega, show (dg45 a + 45 * dg45 b + 2025 * dg45 c) / 45 % 45 = dg45 b by omega, show (dg45 a + 45 * dg45 b + 2025 * dg45 c) / 45 / 45 = dg45 c by omega, a1, b1, c1]
        · intro x hx
          simp only [List.mem_cons] at hx
          rcases hx with rfl | rfl | hx
          · omega
          · omega
          · exact hq x hx
/-- What was got is put as it was, and is of bytes. -/
theorem fortyPut_get {s l : List Int} (h : fortyGet s = (l, 0)) : fortyPut l = s ∧ ∀ x ∈ l, 0 ≤ x ∧ x < 256 := by
  unfold fortyGet at h
  split at h
  · simp at h
  · obtain ⟨m, hm, hp, hq⟩ := fortyGo_ok s [] l h
    simp at hm
    subst hm
    exact ⟨hp, hq⟩
theorem fortyGo_fail : ∀ (s acc : List Int), (fortyGo s acc).2 ≠ 0 → (fortyGo s acc).1 = []
  | [], acc, h => by simp [fortyGo] at h
  | [_], acc, h => by simp [fortyGo]
  | [a, b], acc, h => by
    simp only [fortyGo] at h ⊢
    split
    · rfl
    · split
      · rfl
      · rename_i h1 h2; simp [h1, h2] at h
  | a :: b :: c :: t, acc, h => by
    simp only [fortyGo] at h ⊢
    split
    · rfl
    · split
      · rfl
      · rename_i h1 h2; rw [if_neg h1, if_neg h2] at h; exact fortyGo_fail t _ h
theorem fortyGet_fail {s : List Int} (h : (fortyGet s).2 ≠ 0) : (fortyGet s).1 = [] := by
  unfold fortyGet at h ⊢
  split
  · rfl
  · rename_i h1; rw [if_neg h1] at h; exact fortyGo_fail s [] h
end Go.Proofs.Ytachkhjbckapoaa

namespace Go.Proofs.Ytachkhjbckapoaa
open Go.RowKit Go.Shelf
set_option linter.unusedVariables false
set_option maxRecDepth 100000
set_option linter.unusedSimpArgs false

theorem groups_any (A : Option Addr) (n c : Nat) (sz : Int) (w : World) : Calls Try.prog 78 #[.slice A n c, .int .i64 sz] w fun e w' => e = .returned (.func (.func 119) #[] #[.pointer (some ⟨w.heap.size, 0, none⟩), .pointer (some ⟨w.heap.size + 1, 0, none⟩)]) ∧ (w.alloc (.cells #[.slice A n c] 30)).alloc (.cells #[.int .i64 sz] 3) = w' := by
  have hmf : ∀ (fn : Fn) (first cap : Array Value) (w : World), (Instr.makeFunc fn first cap).run Try.prog w = .ok (.func fn first cap) w := fun _ _ _ _ => rfl
  go_enter Try.func78, Try.ntmps78
  go_wp2
  go_ret
  exact ⟨rfl, rfl⟩

def lenCell (W : World) (b : Nat) : Nat := match W.cell? ⟨b, 0, none⟩ with
  | some (.slice _ n _) => n
  | _ => 0
theorem lenCell_boxed {W : World} {b : Nat} {t : TypeId} {A : Option Addr} {n c : Nat} (h : Boxed W b t (.slice A n c)) : lenCell W b = n := by unfold lenCell; rw [h.cell]

theorem map_addF {s : Nat} (A : Option Addr) : A.map (fun x : Addr => x.add (s + 1)) = A.map (fun x : Addr => (⟨x.block, x.off + (s + 1), none⟩ : Addr)) := by cases A <;> simp [Addr.add]
attribute [local go_sem] Oper.semAt_some
set_option maxHeartbeats 8000000 in
theorem fiter2_any (n L Bl Bs N : Nat) (hn : 1 ≤ n) (A : Option Addr) (c : Nat) (l : List Int) (w0 : World) (hr : RdI w0 .u8 A l) (hlc : l.length ≤ c) (hc9 : c ≤ 9223372036854775807) (hN : N = (l.length + 1) / 2)
    (J : Nat → World → Prop) (Jx : World → Prop) (hJb : ∀ k W, J k W → Below w0.heap.size w0 W ∧ Boxed W Bs 3 (.int .i64 2)) (hJs : ∀ k W v, J k W → J k (W.setCell ⟨Bl, 0, none⟩ v))
    (hY : ∀ (k : Nat) (A' : Option Addr) (c' m : Nat) (q : List Int) (W : World), J k W → Boxed W Bl 30 (.slice A' q.length c') → RdI w0 .u8 A' q → l.drop (2 * k) = q → 0 < q.length → m = min 2 q.length →
      YieldAt Fence.wide (n - 1) Try.prog L #[.slice A' m c'] W fun e W' => (e = .returned (.bool true) ∧ J (k + 1) W' ∧ Boxed W' Bl 30 (.slice A' q.length c')) ∨ (e = .returned (.bool false) ∧ Jx W'))
    (W : World) (h0 : J 0 W) (hbl : Boxed W Bl 30 (.slice A l.length c)) :
    CallsIn Fence.wide n Try.prog 119 #[.func (.yield L) #[] #[], .pointer (some ⟨Bl, 0, none⟩), .pointer (some ⟨Bs, 0, none⟩)] W fun e W' => (∃ v, e = .returned v) ∧ (J N W' ∨ Jx W') := by
  have HN := Lib.hid hN
  clear hN
  refine callsIn_of_wp Try.func119 rfl trivial ?_ rfl
  simp only [Try.ntmps119, List.size_toArray, List.length_cons, List.length_nil, Nat.reduceAdd, Nat.reduceSub, Array.replicate_succ, Array.replicate_zero, List.push_toArray, List.append_toArray, List.nil_append, List.cons_append]
  gi_wp2
  gi_loopw [4] (fun _ wr => ∃ (k : Nat) (A' : Option Addr) (c' : Nat) (q : List Int), J k wr ∧ Boxed wr Bl 30 (.slice A' q.length c') ∧ q.length ≤ c' ∧ c' ≤ 9223372036854775807 ∧ RdI w0 .u8 A' q ∧ Hid (l.drop (2 * k) = q) ∧ 2 * k < l.length + 2) (fun _ wr => lenCell wr Bl)
  case atStart => exact ⟨0, A, c, l, h0, hbl, hlc, hc9, hr, Lib.hid (by simp), by omega⟩
  case round =>
    obtain ⟨k, A', c', q, hJ, hB, hcl, hcc, hra, hq, hkl⟩ := hrel
    have hb1 := hB.cell
    have hcw2 := (hJb k wr hJ).2.cell
    by_cases hp : 0 < q.length
    · have d1 : (0 : Int) < (q.length : Int) := by omega
      have hkn : 2 * k + q.length = l.length := by
        have h := congrArg List.length hq.out
        rw [List.length_drop] at h
        omega
      by_cases hs : 2 ≤ q.length
      · have m1 : min (2 : Int) (q.length : Int) = 2 := by omega
        have s1 : (2 : Int) ≤ (c' : Int) := by omega
        have s2 : (2 : Int) ≤ (q.length : Int) := by omega
        obtain ⟨fn, tmps, assign, body, hy, hR⟩ := hY k A' c' 2 q wr hJ hB hra hq.out hp (by omega)
        have HKN := Lib.hid hkn
        clear hkn
        by_cases hct : c' = 2
        · subst hct
          gi_wp2
          refine hR.mono ?_
          rintro e W3 (⟨rfl, hJ3, hb3⟩ | ⟨rfl, hx3⟩)
          · have hJ4 := hJs _ _ (.slice A' 0 0) hJ3
            have hfz := hb3.frozen
            have hc3 := hb3.cell
            have hcw3 := (hJb _ W3 hJ3).2.cell
            have hb4 := hb3.set (.slice A' 0 0)
            have HJ4 := Lib.hid hJ4
            have HB4 := Lib.hid hb4
            clear hJ4 hb4 hJ3
            gi_wp2
            refine ⟨⟨k + 1, A', 0, q.drop q.length, HJ4.out, by rw [List.length_drop, Nat.sub_self]; exact HB4.out, by rw [List.length_drop]; omega, by omega, (by rw [List.drop_length]; exact RdI.nil _ _ _), Lib.hid (by rw [List.drop_length]; exact List.drop_eq_nil_of_le (by have := HKN.out; omega)), by have := HKN.out; omega⟩, by rw [lenCell_boxed HB4.out, lenCell_boxed hB]; omega⟩
          · gi_wp2
            refine bodyPost_ret (results_none rfl _ _ _) rfl ?_
            exact ⟨⟨_, rfl⟩, .inr hx3⟩
        · gi_wp2
          refine hR.mono ?_
          rintro e W3 (⟨rfl, hJ3, hb3⟩ | ⟨rfl, hx3⟩)
          · have hJ4 := hJs _ _ (.slice (A'.map fun x => (⟨x.block, x.off + 2, none⟩ : Addr)) (q.length - 2) (c' - 2)) hJ3
            have hfz := hb3.frozen
            have hc3 := hb3.cell
            have hcw3 := (hJb _ W3 hJ3).2.cell
            have hb4 := hb3.set (.slice (A'.map fun x => (⟨x.block, x.off + 2, none⟩ : Addr)) (q.length - 2) (c' - 2))
            have HJ4 := Lib.hid hJ4
            have HB4 := Lib.hid hb4
            clear hJ4 hb4 hJ3
            gi_wp2
            refine ⟨⟨k + 1, (A'.map fun x => (⟨x.block, x.off + 2, none⟩ : Addr)), (c' - 2), q.drop 2, HJ4.out, by rw [List.length_drop]; exact HB4.out, by rw [List.length_drop]; omega, by omega, (by have h := hra.cut (c := c') 2 (by omega); rw [if_neg hct, map_addF] at h; exact h), Lib.hid (by have h := hq.out; rw [← h, List.drop_drop, show 2 * k + 2 = 2 * (k + 1) by omega]), by have := HKN.out; omega⟩, by rw [lenCell_boxed HB4.out, lenCell_boxed hB]; omega⟩
          · gi_wp2
            refine bodyPost_ret (results_none rfl _ _ _) rfl ?_
            exact ⟨⟨_, rfl⟩, .inr hx3⟩
      · have m1 : min (2 : Int) (q.length : Int) = (q.length : Int) := by omega
        have s1 : (q.length : Int) ≤ (c' : Int) := by omega
        obtain ⟨fn, tmps, assign, body, hy, hR⟩ := hY k A' c' q.length q wr hJ hB hra hq.out hp (by omega)
        have HKN := Lib.hid hkn
        clear hkn
        by_cases hct : c' = q.length
        · subst hct
          gi_wp2
          refine hR.mono ?_
          rintro e W3 (⟨rfl, hJ3, hb3⟩ | ⟨rfl, hx3⟩)
          · have hJ4 := hJs _ _ (.slice A' 0 0) hJ3
            have hfz := hb3.frozen
            have hc3 := hb3.cell
            have hcw3 := (hJb _ W3 hJ3).2.cell
            have hb4 := hb3.set (.slice A' 0 0)
            have HJ4 := Lib.hid hJ4
            have HB4 := Lib.hid hb4
            clear hJ4 hb4 hJ3
            gi_wp2
            refine ⟨⟨k + 1, A', 0, q.drop q.length, HJ4.out, by rw [List.length_drop, Nat.sub_self]; exact HB4.out, by rw [List.length_drop]; omega, by omega, (by rw [List.drop_length]; exact RdI.nil _ _ _), Lib.hid (by rw [List.drop_length]; exact List.drop_eq_nil_of_le (by have := HKN.out; omega)), by have := HKN.out; omega⟩, by rw [lenCell_boxed HB4.out, lenCell_boxed hB]; omega⟩
          · gi_wp2
            refine bodyPost_ret (results_none rfl _ _ _) rfl ?_
            exact ⟨⟨_, rfl⟩, .inr hx3⟩
        · gi_wp2
          refine hR.mono ?_
          rintro e W3 (⟨rfl, hJ3, hb3⟩ | ⟨rfl, hx3⟩)
          · have hJ4 := hJs _ _ (.slice (A'.map fun x => x.add q.length) 0 (c' - q.length)) hJ3
            have hfz := hb3.frozen
            have hc3 := hb3.cell
            have hcw3 := (hJb _ W3 hJ3).2.cell
            have hb4 := hb3.set (.slice (A'.map fun x => x.add q.length) 0 (c' - q.length))
            have HJ4 := Lib.hid hJ4
            have HB4 := Lib.hid hb4
            clear hJ4 hb4 hJ3
            gi_wp2
            refine ⟨⟨k + 1, (A'.map fun x => x.add q.length), (c' - q.length), q.drop q.length, HJ4.out, by rw [List.length_drop, Nat.sub_self]; exact HB4.out, by rw [List.length_drop]; omega, by omega, (by rw [List.drop_length]; exact RdI.nil _ _ _), Lib.hid (by rw [List.drop_length]; exact List.drop_eq_nil_of_le (by have := HKN.out; omega)), by have := HKN.out; omega⟩, by rw [lenCell_boxed HB4.out, lenCell_boxed hB]; omega⟩
          · gi_wp2
            refine bodyPost_ret (results_none rfl _ _ _) rfl ?_
            exact ⟨⟨_, rfl⟩, .inr hx3⟩
    · have hz : q = [] := List.eq_nil_of_length_eq_zero (by omega)
      have hkn : l.length ≤ 2 * k := by
        have h := congrArg List.length hq.out
        rw [List.length_drop, hz] at h
        simp at h
        omega
      have HE := Lib.hid (show k = N by have := HN.out; omega)
      have HJ := Lib.hid hJ
      have d1 : ¬ (0 : Int) < (q.length : Int) := by omega
      clear hJ hz hkn
      gi_wp2
      go_end0
      exact ⟨⟨_, rfl⟩, .inl (by have h := HJ.out; rw [HE.out] at h; exact h)⟩


set_option maxHeartbeats 8000000 in
theorem fiter3_any (n L Bl Bs N : Nat) (hn : 1 ≤ n) (A : Option Addr) (c : Nat) (l : List Int) (w0 : World) (hr : RdI w0 .u8 A l) (hlc : l.length ≤ c) (hc9 : c ≤ 9223372036854775807) (hN : N = (l.length + 2) / 3)
    (J : Nat → World → Prop) (Jx : World → Prop) (hJb : ∀ k W, J k W → Below w0.heap.size w0 W ∧ Boxed W Bs 3 (.int .i64 3)) (hJs : ∀ k W v, J k W → J k (W.setCell ⟨Bl, 0, none⟩ v))
    (hY : ∀ (k : Nat) (A' : Option Addr) (c' m : Nat) (q : List Int) (W : World), J k W → Boxed W Bl 30 (.slice A' q.length c') → RdI w0 .u8 A' q → l.drop (3 * k) = q → 0 < q.length → m = min 3 q.length →
      YieldAt Fence.wide (n - 1) Try.prog L #[.slice A' m c'] W fun e W' => (e = .returned (.bool true) ∧ J (k + 1) W' ∧ Boxed W' Bl 30 (.slice A' q.length c')) ∨ (e = .returned (.bool false) ∧ Jx W'))
    (W : World) (h0 : J 0 W) (hbl : Boxed W Bl 30 (.slice A l.length c)) :
    CallsIn Fence.wide n Try.prog 119 #[.func (.yield L) #[] #[], .pointer (some ⟨Bl, 0, none⟩), .pointer (some ⟨Bs, 0, none⟩)] W fun e W' => (∃ v, e = .returned v) ∧ (J N W' ∨ Jx W') := by
  have HN := Lib.hid hN
  clear hN
  refine callsIn_of_wp Try.func119 rfl trivial ?_ rfl
  simp only [Try.ntmps119, List.size_toArray, List.length_cons, List.length_nil, Nat.reduceAdd, Nat.reduceSub, Array.replicate_succ, Array.replicate_zero, List.push_toArray, List.append_toArray, List.nil_append, List.cons_append]
  gi_wp2
  gi_loopw [4] (fun _ wr => ∃ (k : Nat) (A' : Option Addr) (c' : Nat) (q : List Int), J k wr ∧ Boxed wr Bl 30 (.slice A' q.length c') ∧ q.length ≤ c' ∧ c' ≤ 9223372036854775807 ∧ RdI w0 .u8 A' q ∧ Hid (l.drop (3 * k) = q) ∧ 3 * k < l.length + 3) (fun _ wr => lenCell wr Bl)
  case atStart => exact ⟨0, A, c, l, h0, hbl, hlc, hc9, hr, Lib.hid (by simp), by omega⟩
  case round =>
    obtain ⟨k, A', c', q, hJ, hB, hcl, hcc, hra, hq, hkl⟩ := hrel
    have hb1 := hB.cell
    have hcw2 := (hJb k wr hJ).2.cell
    by_cases hp : 0 < q.length
    · have d1 : (0 : Int) < (q.length : Int) := by omega
      have hkn : 3 * k + q.length = l.length := by
        have h := congrArg List.length hq.out
        rw [List.length_drop] at h
        omega
      by_cases hs : 3 ≤ q.length
      · have m1 : min (3 : Int) (q.length : Int) = 3 := by omega
        have s1 : (3 : Int) ≤ (c' : Int) := by omega
        have s2 : (3 : Int) ≤ (q.length : Int) := by omega
        obtain ⟨fn, tmps, assign, body, hy, hR⟩ := hY k A' c' 3 q wr hJ hB hra hq.out hp (by omega)
        have HKN := Lib.hid hkn
        clear hkn
        by_cases hct : c' = 3
        · subst hct
          gi_wp2
          refine hR.mono ?_
          rintro e W3 (⟨rfl, hJ3, hb3⟩ | ⟨rfl, hx3⟩)
          · have hJ4 := hJs _ _ (.slice A' 0 0) hJ3
            have hfz := hb3.frozen
            have hc3 := hb3.cell
            have hcw3 := (hJb _ W3 hJ3).2.cell
            have hb4 := hb3.set (.slice A' 0 0)
            have HJ4 := Lib.hid hJ4
            have HB4 := Lib.hid hb4
            clear hJ4 hb4 hJ3
            gi_wp2
            refine ⟨⟨k + 1, A', 0, q.drop q.length, HJ4.out, by rw [List.length_drop, Nat.sub_self]; exact HB4.out, by rw [List.length_drop]; omega, by omega, (by rw [List.drop_length]; exact RdI.nil _ _ _), Lib.hid (by rw [List.drop_length]; exact List.drop_eq_nil_of_le (by have := HKN.out; omega)), by have := HKN.out; omega⟩, by rw [lenCell_boxed HB4.out, lenCell_boxed hB]; omega⟩
          · gi_wp2
            refine bodyPost_ret (results_none rfl _ _ _) rfl ?_
            exact ⟨⟨_, rfl⟩, .inr hx3⟩
        · gi_wp2
          refine hR.mono ?_
          rintro e W3 (⟨rfl, hJ3, hb3⟩ | ⟨rfl, hx3⟩)
          · have hJ4 := hJs _ _ (.slice (A'.map fun x => (⟨x.block, x.off + 3, none⟩ : Addr)) (q.length - 3) (c' - 3)) hJ3
            have hfz := hb3.frozen
            have hc3 := hb3.cell
            have hcw3 := (hJb _ W3 hJ3).2.cell
            have hb4 := hb3.set (.slice (A'.map fun x => (⟨x.block, x.off + 3, none⟩ : Addr)) (q.length - 3) (c' - 3))
            have HJ4 := Lib.hid hJ4
            have HB4 := Lib.hid hb4
            clear hJ4 hb4 hJ3
            gi_wp2
            refine ⟨⟨k + 1, (A'.map fun x => (⟨x.block, x.off + 3, none⟩ : Addr)), (c' - 3), q.drop 3, HJ4.out, by rw [List.length_drop]; exact HB4.out, by rw [List.length_drop]; omega, by omega, (by have h := hra.cut (c := c') 3 (by omega); rw [if_neg hct, map_addF] at h; exact h), Lib.hid (by have h := hq.out; rw [← h, List.drop_drop, show 3 * k + 3 = 3 * (k + 1) by omega]), by have := HKN.out; omega⟩, by rw [lenCell_boxed HB4.out, lenCell_boxed hB]; omega⟩
          · gi_wp2
            refine bodyPost_ret (results_none rfl _ _ _) rfl ?_
            exact ⟨⟨_, rfl⟩, .inr hx3⟩
      · have m1 : min (3 : Int) (q.length : Int) = (q.length : Int) := by omega
        have s1 : (q.length : Int) ≤ (c' : Int) := by omega
        obtain ⟨fn, tmps, assign, body, hy, hR⟩ := hY k A' c' q.length q wr hJ hB hra hq.out hp (by omega)
        have HKN := Lib.hid hkn
        clear hkn
        by_cases hct : c' = q.length
        · subst hct
          gi_wp2
          refine hR.mono ?_
          rintro e W3 (⟨rfl, hJ3, hb3⟩ | ⟨rfl, hx3⟩)
          · have hJ4 := hJs _ _ (.slice A' 0 0) hJ3
            have hfz := hb3.frozen
            have hc3 := hb3.cell
            have hcw3 := (hJb _ W3 hJ3).2.cell
            have hb4 := hb3.set (.slice A' 0 0)
            have HJ4 := Lib.hid hJ4
            have HB4 := Lib.hid hb4
            clear hJ4 hb4 hJ3
            gi_wp2
            refine ⟨⟨k + 1, A', 0, q.drop q.length, HJ4.out, by rw [List.length_drop, Nat.sub_self]; exact HB4.out, by rw [List.length_drop]; omega, by omega, (by rw [List.drop_length]; exact RdI.nil _ _ _), Lib.hid (by rw [List.drop_length]; exact List.drop_eq_nil_of_le (by have := HKN.out; omega)), by have := HKN.out; omega⟩, by rw [lenCell_boxed HB4.out, lenCell_boxed hB]; omega⟩
          · gi_wp2
            refine bodyPost_ret (results_none rfl _ _ _) rfl ?_
            exact ⟨⟨_, rfl⟩, .inr hx3⟩
        · gi_wp2
          refine hR.mono ?_
          rintro e W3 (⟨rfl, hJ3, hb3⟩ | ⟨rfl, hx3⟩)
          · have hJ4 := hJs _ _ (.slice (A'.map fun x => x.add q.length) 0 (c' - q.length)) hJ3
            have hfz := hb3.frozen
            have hc3 := hb3.cell
            have hcw3 := (hJb _ W3 hJ3).2.cell
            have hb4 := hb3.set (.slice (A'.map fun x => x.add q.length) 0 (c' - q.length))
            have HJ4 := Lib.hid hJ4
            have HB4 := Lib.hid hb4
            clear hJ4 hb4 hJ3
            gi_wp2
            refine ⟨⟨k + 1, (A'.map fun x => x.add q.length), (c' - q.length), q.drop q.length, HJ4.out, by rw [List.length_drop, Nat.sub_self]; exact HB4.out, by rw [List.length_drop]; omega, by omega, (by rw [List.drop_length]; exact RdI.nil _ _ _), Lib.hid (by rw [List.drop_length]; exact List.drop_eq_nil_of_le (by have := HKN.out; omega)), by have := HKN.out; omega⟩, by rw [lenCell_boxed HB4.out, lenCell_boxed hB]; omega⟩
          · gi_wp2
            refine bodyPost_ret (results_none rfl _ _ _) rfl ?_
            exact ⟨⟨_, rfl⟩, .inr hx3⟩
    · have hz : q = [] := List.eq_nil_of_length_eq_zero (by omega)
      have hkn : l.length ≤ 3 * k := by
        have h := congrArg List.length hq.out
        rw [List.length_drop, hz] at h
        simp at h
        omega
      have HE := Lib.hid (show k = N by have := HN.out; omega)
      have HJ := Lib.hid hJ
      have d1 : ¬ (0 : Int) < (q.length : Int) := by omega
      clear hJ hz hkn
      gi_wp2
      go_end0
      exact ⟨⟨_, rfl⟩, .inl (by have h := HJ.out; rw [HE.out] at h; exact h)⟩

end Go.Proofs.Ytachkhjbckapoaa

namespace Go.Proofs.Ytachkhjbckapoaa
open Go.RowKit
set_option linter.unusedVariables false
set_option maxRecDepth 100000

theorem signs_nat : ∀ y : Fin 45, ((([48, 49, 50, 51, 52, 53, 54, 55, 56, 57, 65, 66, 67, 68, 69, 70, 71, 72, 73, 74, 75, 76, 77, 78, 79, 80, 81, 82, 83, 84, 85, 86, 87, 88, 89, 90, 32, 36, 37, 42, 43, 45, 46, 47, 58] : List UInt8).getD y.val 0).toNat : Int) = sg45 (y.val : Int) := by decide
theorem signs_at (s : ByteArray) (L : List UInt8) (hs : s = ⟨L.toArray⟩) (i : Nat) (hi : i < s.size) : s[i] = L.getD i 0 := by
  subst hs
  have h2 : i < L.length := hi
  show L.toArray[i] = _
  simp [h2]
theorem idx_signs {z : Int} (h0 : 0 ≤ z) (h1 : z < 45) (w : World) : (Instr.index 9 (.string { data := #[48, 49, 50, 51, 52, 53, 54, 55, 56, 57, 65, 66, 67, 68, 69, 70, 71, 72, 73, 74, 75, 76, 77, 78, 79, 80, 81, 82, 83, 84, 85, 86, 87, 88, 89, 90, 32, 36, 37, 42, 43, 45, 46, 47, 58] }) (.int .i64 z)).run Try.prog w = .ok (.int .u8 (sg45 z)) w := by
  obtain ⟨y, rfl⟩ := Int.eq_ofNat_of_zero_le h0
  obtain ⟨s, hs⟩ : ∃ s : ByteArray, s = { data := #[48, 49, 50, 51, 52, 53, 54, 55, 56, 57, 65, 66, 67, 68, 69, 70, 71, 72, 73, 74, 75, 76, 77, 78, 79, 80, 81, 82, 83, 84, 85, 86, 87, 88, 89, 90, 32, 36, 37, 42, 43, 45, 46, 47, 58] } := ⟨_, rfl⟩
  have hz : s.size = 45 := by rw [hs]; rfl
  rw [← hs, run_index_string _ _ _ _ _ (by rfl), dif_pos ⟨by omega, by rw [hz]; omega⟩]
  have e := signs_nat ⟨y, by omega⟩
  have e2 := signs_at s _ hs y (by rw [hz]; omega)
  have e3 : ((y : Int)).toNat = y := by omega
  simp only [e3, e2]
  simp only at e
  rw [← e]
end Go.Proofs.Ytachkhjbckapoaa

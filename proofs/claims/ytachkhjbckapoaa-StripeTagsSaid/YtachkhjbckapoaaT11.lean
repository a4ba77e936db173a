/- Layer 2, the reference's sum. Condition: not more than 900000 bytes. No condition. -/
import Derived.Test.YtachkhjbckapoaaT04
import Derived.Test.YtachkhjbckapoaaT10
namespace Go.Proofs.Ytachkhjbckapoaa
open Go.RowKit
set_option linter.unusedVariables false
set_option maxRecDepth 100000
set_option linter.unusedSimpArgs false

theorem fill_set {α : Type} (l : List α) (z x : α) (t n : Nat) (ht : t < n) (hl : n = l.length) (hx : l[t]? = some x) :
    (l.take t ++ List.replicate (n - t) z).set t x = l.take (t + 1) ++ List.replicate (n - (t + 1)) z := by
  obtain ⟨m, hm⟩ : ∃ m, n - t = m + 1 := ⟨n - t - 1, by omega⟩
  have hlen : (l.take t).length = t := by rw [List.length_take]; omega
  rw [hm, show n - (t + 1) = m by omega, List.replicate_succ, List.set_append, if_neg (by omega), hlen, Nat.sub_self, List.set_cons_zero, List.take_add_one, hx]
  simp
theorem fill_len {α : Type} (l : List α) (z : α) (t n : Nat) (ht : t ≤ n) (hl : n = l.length) : (l.take t ++ List.replicate (n - t) z).length = n := by
  simp; omega
theorem fill_end {α : Type} (l : List α) (z : α) (n : Nat) (hl : n = l.length) : l.take n ++ List.replicate (n - n) z = l := by
  subst hl; simp
theorem rdi_setCell {W : World} {k : IntKind} {A : Option Addr} {l : List Int} {b o : Nat} {v : Value} (h : RdI W k A l) (hne : ∀ ad, A = some ad → ad.block ≠ b) : RdI (W.setCell ⟨b, o, none⟩ v) k A l := by
  rcases h with h | ⟨ad, rfl, hlt, hc⟩
  · exact .inl h
  · refine .inr ⟨ad, rfl, ?_, fun j hj => (World.cell?_of_block (Below.heap_setCell _ _ _ _ (by have h := hne ad rfl; unfold Addr.add; split <;> simpa using h))).trans (hc j hj)⟩
    show _ < (W.heap.modify _ _).size
    rw [Array.size_modify]; exact hlt
theorem wv_nI (l : List Nat) : wv l = (nI l).map (Value.int .u32) := by simp [wv, nI]
theorem rdw_of_own {w : World} {B e n c : Nat} {A : Option Addr} {C : List Nat} (hn : C.length = n) (h : w.ownsRow B e 1 (.slice A n c) n (wv C)) : RdI w .u32 A (nI C) := by
  rw [wv_nI] at h
  have e1 : (nI C).length = n := by rw [nI_len, hn]
  subst hn
  rw [← nI_len] at h
  exact RdI.of_own h
theorem refWords_len (A : Option Addr) (c m n : Nat) (l : List Int) (w : World) (hn : l.length = n) (hr : RdI w .u8 A l) (hl : n = 4 * m) (hm : m ≤ 1000000) (hb : ∀ x ∈ l, 0 ≤ x ∧ x < 256) :
    Calls Try.prog 132 #[.slice A n c] w fun e w' => (∃ A6 c6, e = .returned (.tuple #[.slice A6 m c6, .int .i64 0]) ∧ RdI w' .u32 A6 (nI (wordsN l))) ∧ Below w.heap.size w w' := by
  subst hn
  refine (refWords_any A c m l w hr hl hm hb).mono ?_
  rintro e w' ⟨v, he, ho, hb'⟩
  obtain ⟨A6, c6, rfl, _, _⟩ := own_slice ho
  exact ⟨⟨A6, c6, he, rdw_of_own (wordsN_len m l hl) ho⟩, hb'⟩
theorem refBytes_len (A : Option Addr) (c n : Nat) (l : List Nat) (w : World) (hn : l.length = n) (hr : RdI w .u32 A (l.map (fun n : Nat => (n : Int)))) (hl : n ≤ 1000000) (hb : W32 l) :
    Calls Try.prog 134 #[.slice A n c] w fun e w' => (∃ A6 c6, e = .returned (.slice A6 (bytesN l).length c6) ∧ RdI w' .u8 A6 (bytesN l) ∧ ∀ a, A6 = some a → w.heap.size ≤ a.block) ∧ Below w.heap.size w w' := by
  subst hn
  refine (refBytes_any A c l w hr hl hb).mono ?_
  rintro e w' ⟨v, he, ho, hb'⟩
  obtain ⟨A6, c6, rfl, _, _⟩ := own_slice ho
  exact ⟨⟨A6, c6, he, RdI.of_own ho, fun a ha => own_ge ho a.block (by rw [ha]; rfl)⟩, hb'⟩

set_option maxHeartbeats 8000000 in
theorem refSum_any (A : Option Addr) (c : Nat) (l : List Int) (w : World) (hr : RdI w .u8 A l) (hl : l.length ≤ 900000) (hb : ∀ x ∈ l, 0 ≤ x ∧ x < 256) :
    Calls Try.prog 96 #[.slice A l.length c] w fun e w' => e = .returned (.agg (bv (sumN l)).toArray) ∧ Below w.heap.size w w' := by
  obtain ⟨PD, hPD⟩ : ∃ P, padN l = P := ⟨_, rfl⟩
  have hpb := padN_byte hb
  have hpl := padN_len l
  obtain ⟨N, hN⟩ : ∃ N, PD.length = 64 * N := ⟨PD.length / 64, by rw [← hPD]; omega⟩
  have HSU : Hid (sumN l = bytesN (shaGo N PD h0N)) := Lib.hid (by unfold sumN; rw [hPD, hN, Nat.mul_div_cancel_left _ (by decide)])
  rw [hPD] at hpb hpl
  have HPD := Lib.hid hPD
  have HN := Lib.hid hN
  have HPL := Lib.hid hpl
  have HPB := Lib.hid hpb
  clear hPD hN hpl hpb
  obtain ⟨w0, hw0, g0, b0, z0⟩ := new_block w (.cells (bv (List.replicate 32 0)).toArray 42)
  go_enter Try.func96, Try.ntmps96
  go_wp2_with fail
  generalize hW0 : World.alloc _ _ = w00
  obtain rfl : w0 = w00 := by rw [← hw0, ← hW0]; kernel_rfl
  clear hw0 hW0
  refine (refPad_any A c l w0 (hr.below b0) (by omega)).mono ?_
  rintro e w2 ⟨v2, rfl, ho2, hb2⟩
  rw [HPD.out] at ho2
  obtain ⟨A2, c2, rfl, hc2, hc3⟩ := own_slice ho2
  have hr2 := RdI.of_own ho2
  have hg2 := (hb2.block w.heap.size (by omega)).trans g0
  have HB2 := Lib.hid (bTg b0 hb2 (by omega))
  have HG2 := Lib.hid hg2
  have hz2 := (Array.getElem?_eq_some_iff.1 hg2).1
  clear ho2 hg2 g0 b0 hb2 hr
  go_wp2_with fail
  refine (refBegin_any w2).mono ?_
  rintro e w3 ⟨rfl, hb3⟩
  have hr3 := hr2.below hb3
  have hg3 := (hb3.block w.heap.size hz2).trans HG2.out
  have hz3 := (Array.getElem?_eq_some_iff.1 hg3).1
  have HB3 := Lib.hid (bTg HB2.out hb3 (by omega))
  obtain ⟨w4, hw4, g4, hb4, hz4⟩ := newRow w3 (wv (List.replicate 8 0)).toArray (wv h0N).toArray 147
  have HG4 := Lib.hid ((hb4.block w.heap.size hz3).trans hg3)
  have HB4 := Lib.hid (bTg HB3.out hb4 (by omega))
  have HR3 := Lib.hid hr3
  have HW4 := Lib.hid hw4
  have HH4 := Lib.hid g4
  have HB34 := Lib.hid hb4
  clear hg3 hr2 hr3 hb3 hb4 hw4 g4 hz4 hz2
  go_wp2_with (refine wpList_store_row rfl 147 _ _ rfl w3.heap.size (wv h0N).toArray rfl rfl 147 _ (heap_alloc_new w3 _) info8 (by kernel_rfl) (all_one (wv_one _)) ?_; generalize hW2 : World.setRow _ _ _ = w22; obtain rfl : w4 = w22 := (by rw [← HW4.out, ← hW2]; kernel_rfl))
  go_loopw [5] (fun i wr => ∃ (k n : Nat) (H : List Nat), Hid (n = 64 * k) ∧ Hid (k ≤ N) ∧ i = .int .i64 (n : Int) ∧ Hid (wr.heap[w3.heap.size]? = some (.cells (wv H).toArray 147 (0, 0))) ∧ Hid (H.length = 8) ∧ W32 H ∧ Hid (shaGo (N - k) (PD.drop n) H = shaGo N PD h0N) ∧ Hid (Below w3.heap.size w4 wr)) (fun i _ => PD.length - (intOf i).toNat)
  case atStart => exact ⟨0, 0, h0N, Lib.hid rfl, Lib.hid (Nat.zero_le _), rfl, HH4, Lib.hid (by decide), h0_W32, Lib.hid rfl, Lib.hid (Below.refl _ _)⟩
  case round =>
    obtain ⟨k, n, H, hn, hk, rfl, hH, hHl, hHw, hfin, hbq⟩ := hrel
    by_cases hlt : k < N
    · have hn1 : n + 64 ≤ PD.length := by have := hn.out; have := HN.out; omega
      have hn2 : n ≤ 1000000 := by have := HPL.out.2; omega
      have t0 : (n : Int) < (PD.length : Int) := by omega
      have t1 : (n : Int) ≤ (n : Int) + 64 := by omega
      have t2 : (n : Int) + 64 ≤ (c2 : Int) := by omega
      have t3 : ((n : Int) + 64).toNat = n + 64 := by omega
      have t4 : ¬ n = c2 := by omega
      have t5 : ¬ c2 = n := by omega
      have HLT := Lib.hid hlt
      clear hlt
      have hrq := HR3.out.below (HB34.out.trans hbq.out)
      have hrc := hrq.cut (c := c2) n hc2
      rw [if_neg t5] at hrc
      have hrt := hrc.take 64
      obtain ⟨q, hq⟩ : ∃ q, (PD.drop n).take 64 = q := ⟨_, rfl⟩
      have hql : q.length = 64 := by rw [← hq, List.length_take, List.length_drop]; omega
      have hqb : ∀ x ∈ q, 0 ≤ x ∧ x < 256 := fun x hx => HPB.out x (List.mem_of_mem_drop (List.mem_of_mem_take (by rw [hq]; exact hx)))
      rw [hq] at hrt
      have HQ := Lib.hid hq
      have HQL := Lib.hid hql
      have HQB := Lib.hid hqb
      clear hrq hrc hq hql hqb hb
      go_wp2_with fail
      refine (refWords_len _ _ 16 64 q wr HQL.out hrt rfl (by decide) HQB.out).mono ?_
      rintro e w5 ⟨⟨A6, c6, rfl, hr5⟩, hb5⟩
      have hz5 := (Array.getElem?_eq_some_iff.1 hH.out).1
      have HH5 := Lib.hid ((hb5.block w3.heap.size hz5).trans hH.out)
      have HB5 := Lib.hid (bTg hbq.out hb5 (Nat.le_of_lt hz5))
      obtain ⟨ws, hws⟩ : ∃ ws, wordsN q = ws := ⟨_, rfl⟩
      have hwl : ws.length = 16 := by rw [← hws]; exact wordsN_len 16 q HQL.out
      have hww : W32 ws := by rw [← hws]; exact wordsN_W32 q HQB.out
      rw [hws] at hr5
      have hr5l : (nI ws).length = 16 := by rw [nI_len]; exact hwl
      obtain ⟨lad, rfl, hq0⟩ := hr5.at_ (j := 0) (by omega)
      have HWS := Lib.hid hws
      have HWL := Lib.hid hwl
      have HR5 := Lib.hid hr5
      have hz6 : w3.heap.size < w5.heap.size := by have := hb5.size; omega
      clear hrt hws hwl hr5 hr5l hq0 hb5 hz5 hH hbq
      obtain ⟨w6, hw6, g6, hb6, hz66⟩ := newRow w5 (wv (List.replicate 16 0)).toArray (wv (List.replicate 16 0)).toArray 152
      have HW6 := Lib.hid hw6
      have HH6 := Lib.hid ((hb6.block w3.heap.size hz6).trans HH5.out)
      have HB6 := Lib.hid (bTg HB5.out hb6 (Nat.le_of_lt hz6))
      have HR6 := Lib.hid (HR5.out.below hb6)
      have HG6 := Lib.hid g6
      have HB56 := Lib.hid hb6
      clear hw6 g6 hb6 hz66
      go_wp2_with (first | (refine wpL_build rfl 152 _ rfl (wv (List.replicate 16 0)).toArray ?_ ?_; (focus (as_aux_lemma => kernel_rfl))) | (refine wpList_store_row rfl 152 _ _ rfl w5.heap.size (wv (List.replicate 16 0)).toArray rfl rfl 152 _ (heap_alloc_new w5 _) info16 (by kernel_rfl) (all_one (wv_one _)) ?_; generalize hW2 : World.setRow _ _ _ = w22; obtain rfl : w6 = w22 := (by rw [← HW6.out, ← hW2]; kernel_rfl)))
      go_loopw [9] (fun i wq => ∃ t : Nat, t ≤ 16 ∧ i = .int .i64 (t : Int) ∧ Hid (wq.heap[w5.heap.size]? = some (.cells (wv (ws.take t ++ List.replicate (16 - t) 0)).toArray 152 (0, 0))) ∧ Hid (Below w5.heap.size w6 wq)) (fun i _ => 16 - (intOf i).toNat)
      case atStart => exact ⟨0, Nat.zero_le _, rfl, HG6, Lib.hid (Below.refl _ _)⟩
      case round =>
        obtain ⟨t, ht, rfl, hg, hb7⟩ := hrel
        by_cases h16 : t < 16
        · have d1 : ((t : Int) < 16) := by omega
          have hlr := (HR5.out.below (HB56.out.trans hb7.out))
          obtain ⟨ad', ha', cl⟩ := hlr.at_ (j := t) (by rw [nI_len, HWL.out]; exact h16)
          obtain rfl := Option.some.inj ha'
          rw [nI_at (by rw [HWL.out]; exact h16)] at cl
          obtain ⟨x, hx⟩ : ∃ x, ws.getD t 0 = x := ⟨_, rfl⟩
          rw [hx] at cl
          have HX : Hid (ws[t]? = some x) := Lib.hid (by rw [← hx]; simp [List.getD_eq_getElem?_getD, show t < ws.length by rw [HWL.out]; exact h16])
          have cv := row_wv (j := t) hg.out (by rw [fill_len _ _ _ _ (by omega) HWL.out.symm]; exact h16)
          have fz := row_free hg.out
          clear hlr ha' hx
          go_wp2
          go_roundw
          case rel => exact ⟨t + 1, by omega, by go_num, Lib.hid (by rw [← fill_set ws 0 x t 16 h16 HWL.out.symm HX.out]; exact row_wset t x hg.out), Lib.hid (bSg hb7.out (Nat.le_refl _) _)⟩
          case measure => simp [intOf]; omega
        · obtain rfl : t = 16 := by omega
          have hg' := hg.out
          rw [fill_end ws 0 16 HWL.out.symm] at hg'
          have hgh := (hb7.out.block w3.heap.size (by have := (Array.getElem?_eq_some_iff.1 HH6.out).1; omega)).trans HH6.out
          have HG7 := Lib.hid hg'
          have HGH7 := Lib.hid hgh
          have HB7 := Lib.hid (bTg HB6.out hb7.out (Nat.le_of_lt hz6))
          clear hg hg' hgh hb7 ht h16
          simp only [Int.cast_ofNat_Int]
          go_wp2_with (first | (refine wpList_load_row rfl 147 (.tmp 4) rfl w3.heap.size rfl 147 (wv H).toArray (0, 0) _ HGH7.out Try.underlying147 rfl (by rw [List.size_toArray, wv_len, hHl.out]; exact info8) ?_) | (refine wpList_load_row rfl 152 (.tmp 8) rfl w5.heap.size rfl 152 (wv ws).toArray (0, 0) _ HG7.out Try.underlying152 rfl (by rw [List.size_toArray, wv_len, HWL.out]; exact info16) ?_))
          refine (refBlock_any H ws wr hHl.out HWL.out hHw hww).mono ?_
          rintro e w8 ⟨rfl, hb8⟩
          have hz8 := (Array.getElem?_eq_some_iff.1 HGH7.out).1
          have HGH8 := Lib.hid ((hb8.block w3.heap.size hz8).trans HGH7.out)
          have HB8 := Lib.hid (bTg HB7.out hb8 (Nat.le_of_lt hz8))
          obtain ⟨B, hB⟩ : ∃ B, blockN H ws = B := ⟨_, rfl⟩
          have HBL : Hid (B.length = 8) := Lib.hid (by rw [← hB]; exact block_len hHl.out)
          have hBw : W32 B := by rw [← hB]; exact block_W32
          have HBE := Lib.hid hB
          rw [hB]
          clear hB hb8
          go_wp2_with (refine wpList_store_row rfl 147 _ _ rfl w3.heap.size (wv B).toArray rfl rfl 147 _ HGH8.out ?_ ?_ (all_one (wv_one _)) ?_; (focus (rw [List.size_toArray, wv_len, HBL.out]; exact info8)); (focus (rw [List.size_toArray, wv_len, List.size_toArray, wv_len, HBL.out, hHl.out])))
          go_roundw
          case rel =>
            refine ⟨k + 1, n + 64, B, Lib.hid (by have := hn.out; omega), Lib.hid (by have := HLT.out; omega), by go_num, Lib.hid (setRow_heap _ _ _ _ _ _ HGH8.out), HBL, hBw, Lib.hid ?_, Lib.hid (setRow_below HB8.out (Nat.le_refl _))⟩
            rw [← hfin.out]
            obtain ⟨m, hm⟩ : ∃ m, N - k = m + 1 := ⟨N - k - 1, by have := HLT.out; omega⟩
            rw [hm, show N - (k + 1) = m by omega, shaGo, HQ.out, HWS.out, HBE.out, List.drop_drop]
          case measure => simp [intOf]; omega
    · obtain rfl : k = N := by have := hk.out; omega
      have hnN : n = PD.length := by have := hn.out; have := HN.out; omega
      have hHN := hfin.out
      rw [Nat.sub_self] at hHN
      have HHN : Hid (bytesN H = sumN l) := Lib.hid (by rw [HSU.out, ← hHN]; rfl)
      have t0 : ¬ (n : Int) < (PD.length : Int) := by omega
      have hz5 := (Array.getElem?_eq_some_iff.1 hH.out).1
      have HG9 := Lib.hid ((hbq.out.block w.heap.size (by have := (Array.getElem?_eq_some_iff.1 HG4.out).1; omega)).trans HG4.out)
      have HB9 := Lib.hid (bTg HB4.out hbq.out (by omega))
      clear hnN hHN hlt hb
      obtain ⟨w6, hw6, g6, hb6, hz66⟩ := newRow wr (bv (List.replicate 32 0)).toArray (bv (List.replicate 32 0)).toArray 42
      have HW6 := Lib.hid hw6
      have HH6 := Lib.hid ((hb6.block w3.heap.size hz5).trans hH.out)
      have HB6 := Lib.hid (bTg HB9.out hb6 (by omega))
      have HG6 := Lib.hid ((hb6.block w.heap.size (by omega)).trans HG9.out)
      have HO6 := Lib.hid g6
      have HZ6 := Lib.hid hz66
      clear hw6 g6 hb6 hz66 hbq hH
      go_wp2_with (first | (refine wpL_build rfl 42 _ rfl (bv (List.replicate 32 0)).toArray ?_ ?_; (focus (as_aux_lemma => kernel_rfl))) | (refine wpList_store_row rfl 42 _ _ rfl wr.heap.size (bv (List.replicate 32 0)).toArray rfl rfl 42 _ (heap_alloc_new wr _) info32 (by kernel_rfl) (all_one (bv_one _)) ?_; generalize hW2 : World.setRow _ _ _ = w22; obtain rfl : w6 = w22 := (by rw [← HW6.out, ← hW2]; kernel_rfl)))
      refine (refBytes_len (some ⟨w3.heap.size, 0, none⟩) 8 8 H w6 hHl.out (rd_roww HH6.out) (by decide) hHw).mono ?_
      rintro e w7 ⟨⟨A7, c7, rfl, hr7, hne7⟩, hb7⟩
      obtain ⟨S, hS⟩ : ∃ S, bytesN H = S := ⟨_, rfl⟩
      have hSl : S.length = 32 := by rw [← hS, bytesN_len, hHl.out]
      rw [hS] at hr7 HHN ⊢
      obtain ⟨sad, rfl, hq0⟩ := hr7.at_ (j := 0) (by omega)
      have hz7 := (Array.getElem?_eq_some_iff.1 HO6.out).1
      have HO7 := Lib.hid ((hb7.block wr.heap.size hz7).trans HO6.out)
      have HG7 := Lib.hid ((hb7.block w.heap.size (by omega)).trans HG6.out)
      have HB7 := Lib.hid (bTg HB6.out hb7 (by omega))
      have HR7 := Lib.hid hr7
      have HSL := Lib.hid hSl
      have hzg : w.heap.size < wr.heap.size := by omega
      have HNE : Hid (sad.block ≠ wr.heap.size) := Lib.hid (by have := hne7 sad rfl; omega)
      have hSb : S.length ≤ 1000 := by omega
      have HW7 := Lib.hid hz7
      clear hS hSl hr7 hq0 hb7 hne7
      obtain ⟨wx, rfl⟩ : ∃ wx : World, wx = wr := ⟨_, rfl⟩
      go_wp2
      go_loopw [12] (fun i wq => ∃ t : Nat, t ≤ 32 ∧ i = .int .i64 (t : Int) ∧ Hid (wq.heap[wx.heap.size]? = some (.cells (bv (S.take t ++ List.replicate (32 - t) 0)).toArray 42 (0, 0))) ∧ Hid (RdI wq .u8 (some sad) S) ∧ Hid (Below wx.heap.size w7 wq)) (fun i _ => 32 - (intOf i).toNat)
      case atStart => exact ⟨0, Nat.zero_le _, rfl, HO7, HR7, Lib.hid (Below.refl _ _)⟩
      case round =>
        obtain ⟨t, ht, rfl, hg, hrs, hb8⟩ := hrel
        by_cases h32 : t < 32
        · have d1 : ((t : Int) < 32) := by omega
          have d2 : (t : Int) < (S.length : Int) := by have := HSL.out; omega
          obtain ⟨ad', ha', cl⟩ := hrs.out.at_ (j := t) (by rw [HSL.out]; exact h32)
          obtain rfl := Option.some.inj ha'
          obtain ⟨x, hx⟩ : ∃ x, S.getD t 0 = x := ⟨_, rfl⟩
          rw [hx] at cl
          have HX : Hid (S[t]? = some x) := Lib.hid (by rw [← hx]; simp [List.getD_eq_getElem?_getD, show t < S.length by rw [HSL.out]; exact h32])
          have cv := row_bv (j := t) hg.out (by rw [fill_len _ _ _ _ (by omega) HSL.out.symm]; exact h32)
          have fz := row_free hg.out
          clear ha' hx
          go_wp2
          go_roundw
          case rel => exact ⟨t + 1, by omega, by go_num, Lib.hid (by rw [← fill_set S 0 x t 32 h32 HSL.out.symm HX.out]; exact row_bset t x hg.out), Lib.hid (rdi_setCell hrs.out (fun a ha => by rw [← Option.some.inj ha]; exact HNE.out)), Lib.hid (bSg hb8.out (Nat.le_refl _) _)⟩
          case measure => simp [intOf]; omega
        · obtain rfl : t = 32 := by omega
          have hg' := hg.out
          rw [fill_end S 0 32 HSL.out.symm] at hg'
          have HG8 := Lib.hid hg'
          have HGW := Lib.hid ((hb8.out.block w.heap.size hzg).trans HG7.out)
          have HBE := Lib.hid (bTg HB7.out hb8.out (Nat.le_of_lt hzg))
          clear hg hg' hb8 ht h32 hrs
          simp only [Int.cast_ofNat_Int]
          go_wp2_with (first | (refine wpList_load_row rfl 42 (.tmp 10) rfl wx.heap.size rfl 42 (bv S).toArray (0, 0) _ HG8.out Try.underlying42 rfl ?_ ?_; (focus (rw [List.size_toArray, bv_len, HSL.out]; exact info32))) | (refine wpList_store_row rfl 42 (.tmp 2) _ rfl w.heap.size (bv S).toArray rfl rfl 42 _ HGW.out ?_ ?_ (all_one (bv_one _)) ?_; (focus (rw [List.size_toArray, bv_len, HSL.out]; exact info32)); (focus (rw [List.size_toArray, bv_len, List.size_toArray, bv_len, HSL.out]; rfl))))
          refine bodyPost_ret (v := .agg (bv S).toArray) (results_cell_row rfl _ _ w.heap.size 42 (bv S).toArray (0, 0) _ rfl (setRow_heap _ _ _ _ _ _ HGW.out) Try.underlying42 rfl (by rw [List.size_toArray, bv_len, HSL.out]; exact info32)) rfl ⟨by rw [← HHN.out], setRow_below HBE.out (Nat.le_refl _)⟩
end Go.Proofs.Ytachkhjbckapoaa

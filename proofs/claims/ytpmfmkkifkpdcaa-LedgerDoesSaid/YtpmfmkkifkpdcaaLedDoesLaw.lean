/- Layer 24's law LedgerDoes, walked: a ledger answers as the document's, and has just its entries. No condition beyond the example's. -/
import Derived.Test.YtpmfmkkifkpdcaaLedAllLaw
import Derived.Test.YtpmfmkkifkpdcaaRefAdd
import Derived.Test.YtpmfmkkifkpdcaaBoolsOpen
namespace Go.Proofs.Ytpmfmkkifkpdcaa
open Go.RowKit Go.Maps
set_option linter.unusedVariables false
set_option maxRecDepth 100000
set_option linter.unusedSimpArgs false

theorem ld_s {W0 : World} {p : Addr} {b1 b2 gm c2 : Nat} {A2 : Option Addr} {S2 : List En} {y e : En} {room : Int} (H1 : Hid (W0.heap[b1]? = some (.cells y.row.toArray 37 (0, 0)))) (H2 : Hid (W0.heap[b2]? = some (.cells y.row.toArray 37 (0, 0)))) (HE : Hid (EnAt W0 p e)) (HM : Hid (W0.heap[gm]? = some (.cells #[.int .i64 room, .slice A2 S2.length c2] 42 (0, 0)))) {w9 : World} (h : Below W0.heap.size W0 w9) :
    Below W0.heap.size W0 w9 ∧ w9.cell? ⟨b1, 0, none⟩ = some (.int .i64 y.a0) ∧ w9.cell? ⟨b1, 1, none⟩ = some (.int .i64 y.a1) ∧ w9.cell? ⟨b1, 2, none⟩ = some (.int .i64 y.a2) ∧ w9.cell? ⟨b1, 3, none⟩ = some (.int .i64 y.a3) ∧ w9.cell? ⟨b1, 4, none⟩ = some (.int .i64 y.a4) ∧ w9.cell? ⟨b1, 5, none⟩ = some (.int .i64 y.a5) ∧ w9.cell? ⟨b1, 6, none⟩ = some (.int .i64 y.a6) ∧ w9.cell? ⟨b1, 7, none⟩ = some (.int .i64 y.a7) ∧ w9.cell? ⟨b1, 8, none⟩ = some (.int .i64 y.a8) ∧ w9.cell? ⟨b1, 9, none⟩ = some (.int .i64 y.a9) ∧ w9.cell? ⟨b1, 10, none⟩ = some (.int .i64 y.a10) ∧ w9.cell? ⟨b1, 11, none⟩ = some (.int .i64 y.l) ∧ w9.cell? ⟨b1, 12, none⟩ = some (.int .i64 y.i) ∧ w9.cell? ⟨b1, 13, none⟩ = some (.bool y.bk) ∧ w9.cell? ⟨b2, 0, none⟩ = some (.int .i64 y.a0) ∧ w9.cell? ⟨b2, 1, none⟩ = some (.int .i64 y.a1) ∧ w9.cell? ⟨b2, 2, none⟩ = some (.int .i64 y.a2) ∧ w9.cell? ⟨b2, 3, none⟩ = some (.int .i64 y.a3) ∧ w9.cell? ⟨b2, 4, none⟩ = some (.int .i64 y.a4) ∧ w9.cell? ⟨b2, 5, none⟩ = some (.int .i64 y.a5) ∧ w9.cell? ⟨b2, 6, none⟩ = some (.int .i64 y.a6) ∧ w9.cell? ⟨b2, 7, none⟩ = some (.int .i64 y.a7) ∧ w9.cell? ⟨b2, 8, none⟩ = some (.int .i64 y.a8) ∧ w9.cell? ⟨b2, 9, none⟩ = some (.int .i64 y.a9) ∧ w9.cell? ⟨b2, 10, none⟩ = some (.int .i64 y.a10) ∧ w9.cell? ⟨b2, 11, none⟩ = some (.int .i64 y.l) ∧ w9.cell? ⟨b2, 12, none⟩ = some (.int .i64 y.i) ∧ w9.cell? ⟨b2, 13, none⟩ = some (.bool y.bk) ∧ w9.cell? p = some (.int .i64 e.a0) ∧ w9.cell? ⟨(p).block, (p).off + 1, none⟩ = some (.int .i64 e.a1) ∧ w9.cell? ⟨(p).block, (p).off + 2, none⟩ = some (.int .i64 e.a2) ∧ w9.cell? ⟨(p).block, (p).off + 3, none⟩ = some (.int .i64 e.a3) ∧ w9.cell? ⟨(p).block, (p).off + 4, none⟩ = some (.int .i64 e.a4) ∧ w9.cell? ⟨(p).block, (p).off + 5, none⟩ = some (.int .i64 e.a5) ∧ w9.cell? ⟨(p).block, (p).off + 6, none⟩ = some (.int .i64 e.a6) ∧ w9.cell? ⟨(p).block, (p).off + 7, none⟩ = some (.int .i64 e.a7) ∧ w9.cell? ⟨(p).block, (p).off + 8, none⟩ = some (.int .i64 e.a8) ∧ w9.cell? ⟨(p).block, (p).off + 9, none⟩ = some (.int .i64 e.a9) ∧ w9.cell? ⟨(p).block, (p).off + 10, none⟩ = some (.int .i64 e.a10) ∧ w9.cell? ⟨(p).block, (p).off + 11, none⟩ = some (.int .i64 e.l) ∧ w9.cell? ⟨(p).block, (p).off + 12, none⟩ = some (.int .i64 e.i) ∧ w9.cell? ⟨(p).block, (p).off + 13, none⟩ = some (.bool e.bk) ∧ w9.cell? ⟨gm, 0, none⟩ = some (.int .i64 room) ∧ w9.cell? ⟨gm, 1, none⟩ = some (.slice A2 S2.length c2) := by
  have h1 := (h.block b1 (Array.getElem?_eq_some_iff.1 H1.out).1).trans H1.out
  have h2 := (h.block b2 (Array.getElem?_eq_some_iff.1 H2.out).1).trans H2.out
  have hm := (h.block gm (Array.getElem?_eq_some_iff.1 HM.out).1).trans HM.out
  have he := HE.out.below h (Nat.le_refl _)
  exact ⟨h, (cell_of_row _ _ 0 _ _ _ h1).trans rfl, (cell_of_row _ _ 1 _ _ _ h1).trans rfl, (cell_of_row _ _ 2 _ _ _ h1).trans rfl, (cell_of_row _ _ 3 _ _ _ h1).trans rfl, (cell_of_row _ _ 4 _ _ _ h1).trans rfl, (cell_of_row _ _ 5 _ _ _ h1).trans rfl, (cell_of_row _ _ 6 _ _ _ h1).trans rfl, (cell_of_row _ _ 7 _ _ _ h1).trans rfl, (cell_of_row _ _ 8 _ _ _ h1).trans rfl, (cell_of_row _ _ 9 _ _ _ h1).trans rfl, (cell_of_row _ _ 10 _ _ _ h1).trans rfl, (cell_of_row _ _ 11 _ _ _ h1).trans rfl, (cell_of_row _ _ 12 _ _ _ h1).trans rfl, (cell_of_row _ _ 13 _ _ _ h1).trans rfl, (cell_of_row _ _ 0 _ _ _ h2).trans rfl, (cell_of_row _ _ 1 _ _ _ h2).trans rfl, (cell_of_row _ _ 2 _ _ _ h2).trans rfl, (cell_of_row _ _ 3 _ _ _ h2).trans rfl, (cell_of_row _ _ 4 _ _ _ h2).trans rfl, (cell_of_row _ _ 5 _ _ _ h2).trans rfl, (cell_of_row _ _ 6 _ _ _ h2).trans rfl, (cell_of_row _ _ 7 _ _ _ h2).trans rfl, (cell_of_row _ _ 8 _ _ _ h2).trans rfl, (cell_of_row _ _ 9 _ _ _ h2).trans rfl, (cell_of_row _ _ 10 _ _ _ h2).trans rfl, (cell_of_row _ _ 11 _ _ _ h2).trans rfl, (cell_of_row _ _ 12 _ _ _ h2).trans rfl, (cell_of_row _ _ 13 _ _ _ h2).trans rfl, he.1, he.2 0 _ rfl, he.2 1 _ rfl, he.2 2 _ rfl, he.2 3 _ rfl, he.2 4 _ rfl, he.2 5 _ rfl, he.2 6 _ rfl, he.2 7 _ rfl, he.2 8 _ rfl, he.2 9 _ rfl, he.2 10 _ rfl, he.2 11 _ rfl, he.2 12 _ rfl, (cell_of_row _ _ 0 _ _ _ hm).trans rfl, (cell_of_row _ _ 1 _ _ _ hm).trans rfl⟩

set_option maxHeartbeats 8000000 in
set_option maxRecDepth 100000 in
theorem ledgerDoes_yes (room : Int) (A B : Option Addr) (c d : Nat) (l : List En) (bl : List Bool) (w : World) (hk : KeptSays) (hr : RdE w A l) (hbl : RdB w B bl) (hwf : ∀ e ∈ l, (Lit.int .i64 e.a0).wf = true) (hr1 : 1 ≤ room) (hr2 : room ≤ 64) (hl : l.length ≤ 200) :
    Calls Try.prog 3 #[.int .i64 room, .slice A l.length c, .slice B bl.length d] w fun r w' => r = .returned (.bool true) ∧ Below w.heap.size w w' := by
  have h2 : decide ((200 : Int) < (l.length : Int)) = false := by simp; omega
  have HA := Lib.hid hr
  have HBL := Lib.hid hbl
  have HWL := Lib.hid hwf
  clear hr hbl hwf
  go_enter Try.func3, Try.ntmps3
  go_wp2_with fail
  refine (ledNew_any room _ hr1 hr2).mono ?_
  rintro r w1 ⟨rfl, hL1, hb1⟩
  go_wp2_with fail
  refine (rledNew_any room _ hr1 hr2).mono ?_
  rintro r w2 ⟨rfl, hM2, hb2⟩
  have HX0 := Lib.hid (hL1.below hb2 (Nat.le_refl _))
  have HM0 := Lib.hid hM2
  have HB0 := Lib.hid (bT hb1 hb2)
  have hlt1 := hL1.lt
  obtain ⟨gx, hgx⟩ : ∃ gx, w.heap.size + 1 = gx := ⟨_, rfl⟩
  obtain ⟨gm, hgm⟩ : ∃ gm, w1.heap.size = gm := ⟨_, rfl⟩
  obtain ⟨bx, hbx⟩ : ∃ bx, w.heap.size = bx := ⟨_, rfl⟩
  have HN : Hid (bx < gm ∧ gx < gm ∧ w.heap.size ≤ bx ∧ w.heap.size ≤ gm) := Lib.hid (by omega)
  rw [hgx, hbx] at HX0
  rw [hgm] at HM0
  rw [hgx, hgm]
  clear hL1 hb1 hM2 hb2 hlt1 hgx hgm hbx
  go_wp2_with fail
  go_loopw [11] (fun i wr => ∃ (k : Nat) (S : List En), k ≤ l.length ∧ i = .int .i64 k ∧ Hid (Led wr gx bx room S) ∧ Hid (RLed wr gm room S) ∧ Hid (Below w.heap.size w wr)) (fun i _ => l.length - (intOf i).toNat)
  case atStart => exact ⟨0, [], Nat.zero_le _, rfl, HX0, HM0, HB0⟩
  case round =>
    obtain ⟨k, S, hkl, rfl, HX, HM, HB⟩ := hrel
    have hS64 := HX.out.len
    by_cases hlt : k < l.length
    · obtain ⟨e, he⟩ : ∃ e, l[k] = e := ⟨_, rfl⟩
      have HE := Lib.hid he
      have HWF := Lib.hid (HWL.out l[k] (List.getElem_mem hlt))
      rw [he] at HWF
      obtain ⟨ad, rfl, ha⟩ := (HA.out.below HB.out (Nat.le_refl _)).at_ hlt
      rw [he] at ha
      obtain ⟨x0, x1, x2, x3, x4, x5, x6, x7, x8, x9, x10, x11, x12, x13⟩ := ha.cells
      clear ha he
      by_cases hbk : k < bl.length
      · obtain ⟨bd, rfl, hbc⟩ := (HBL.out.below HB.out (Nat.le_refl _)).at_ hbk
        cases hbv : bl[k] with
        | true =>
          rw [hbv] at hbc
          obtain ⟨S2, z, hq⟩ : ∃ S2 z, setR S e = (S2, z) := ⟨_, _, rfl⟩
          obtain ⟨y, zz, hg⟩ : ∃ y zz, gotR S2 e.a0 = (y, zz) := ⟨_, _, rfl⟩
          have HQ := Lib.hid hq
          have HG := Lib.hid hg
          clear hq hg hbv
          as_aux_lemma =>
            go_wp2_with (first | (go_at_call 13; (with_reducible refine (ledSet_any gx bx room S e _ HX.out).mono ?_); rw [HQ.out]; rintro r w2 ⟨rfl, hl2, hg2⟩; have HX2 := Lib.hid hl2; have HM2 := Lib.hid (HM.out.grown hg2 HN.out.1); have HB2 := Lib.hid (HB.out.trans (below_of_grown hg2 HB.out.size HN.out.2.2.1)); clear HX HM hl2 hg2 x0 x1 x2 x3 x4 x5 x6 x7 x8 x9 x10 x11 x12 x13; obtain ⟨ad2, hA2, ha⟩ := (HA.out.below HB2.out (Nat.le_refl _)).at_ hlt; rw [HE.out] at ha; obtain rfl := Option.some.inj hA2; obtain ⟨x0, x1, x2, x3, x4, x5, x6, x7, x8, x9, x10, x11, x12, x13⟩ := ha.cells; clear ha) | (go_at_call 14; (with_reducible refine (rledSet_any gm room S e _ HM2.out).mono ?_); rw [HQ.out]; rintro r w3 ⟨rfl, hm3, hb3⟩; have HM3 := Lib.hid hm3; have HX3 := Lib.hid (HX2.out.keep (hb3.block gx HN.out.2.1) (hb3.block bx HN.out.1)); have HB3 := Lib.hid (HB2.out.trans (hb3.mono HN.out.2.2.2)); clear HX2 HM2 hm3 hb3 x0 x1 x2 x3 x4 x5 x6 x7 x8 x9 x10 x11 x12 x13; obtain ⟨ad2, hA2, ha⟩ := (HA.out.below HB3.out (Nat.le_refl _)).at_ hlt; rw [HE.out] at ha; obtain rfl := Option.some.inj hA2; obtain ⟨x0, x1, x2, x3, x4, x5, x6, x7, x8, x9, x10, x11, x12, x13⟩ := ha.cells; clear ha) | (go_at_call 17; (with_reducible refine (ledGet_any gx bx room e.a0 S2 _ HX3.out HWF.out y zz HG.out).mono ?_); rintro r w4 ⟨rfl, hb4⟩; have hb5 : Below w3.heap.size w3 (w4.alloc (.cells #[.int .i64 y.a0, .int .i64 y.a1, .int .i64 y.a2, .int .i64 y.a3, .int .i64 y.a4, .int .i64 y.a5, .int .i64 y.a6, .int .i64 y.a7, .int .i64 y.a8, .int .i64 y.a9, .int .i64 y.a10, .int .i64 y.l, .int .i64 y.i, .bool y.bk] 37)) := bA hb4 _; have HX4 := Lib.hid (HX3.out.below hb5 (Nat.le_refl _)); have HM4 := Lib.hid (HM3.out.below hb5 (Nat.le_refl _)); have HB4 := Lib.hid (bT HB3.out hb5); have HY4 := Lib.hid (heap_alloc_new w4 (.cells #[.int .i64 y.a0, .int .i64 y.a1, .int .i64 y.a2, .int .i64 y.a3, .int .i64 y.a4, .int .i64 y.a5, .int .i64 y.a6, .int .i64 y.a7, .int .i64 y.a8, .int .i64 y.a9, .int .i64 y.a10, .int .i64 y.l, .int .i64 y.i, .bool y.bk] 37)); clear HX3 HM3 hb4 hb5 x0 x1 x2 x3 x4 x5 x6 x7 x8 x9 x10 x11 x12 x13; obtain ⟨ad2, hA2, ha⟩ := (HA.out.below HB4.out (Nat.le_refl _)).at_ hlt; rw [HE.out] at ha; obtain rfl := Option.some.inj hA2; obtain ⟨x0, x1, x2, x3, x4, x5, x6, x7, x8, x9, x10, x11, x12, x13⟩ := ha.cells; clear ha) | (go_at_call 18; (with_reducible refine (rledGet_any gm room e.a0 S2 _ HM4.out y zz HG.out).mono ?_); rintro r w5 ⟨rfl, hb5⟩; have hb6 : Below (w4.alloc (.cells #[.int .i64 y.a0, .int .i64 y.a1, .int .i64 y.a2, .int .i64 y.a3, .int .i64 y.a4, .int .i64 y.a5, .int .i64 y.a6, .int .i64 y.a7, .int .i64 y.a8, .int .i64 y.a9, .int .i64 y.a10, .int .i64 y.l, .int .i64 y.i, .bool y.bk] 37)).heap.size (w4.alloc (.cells #[.int .i64 y.a0, .int .i64 y.a1, .int .i64 y.a2, .int .i64 y.a3, .int .i64 y.a4, .int .i64 y.a5, .int .i64 y.a6, .int .i64 y.a7, .int .i64 y.a8, .int .i64 y.a9, .int .i64 y.a10, .int .i64 y.l, .int .i64 y.i, .bool y.bk] 37)) (w5.alloc (.cells #[.int .i64 y.a0, .int .i64 y.a1, .int .i64 y.a2, .int .i64 y.a3, .int .i64 y.a4, .int .i64 y.a5, .int .i64 y.a6, .int .i64 y.a7, .int .i64 y.a8, .int .i64 y.a9, .int .i64 y.a10, .int .i64 y.l, .int .i64 y.i, .bool y.bk] 37)) := bA hb5 _; have HX5 := Lib.hid (HX4.out.below hb6 (Nat.le_refl _)); have HM5 := Lib.hid (HM4.out.below hb6 (Nat.le_refl _)); have HB5 := Lib.hid (bT HB4.out hb6); have HY5 := Lib.hid ((hb6.block _ (Array.getElem?_eq_some_iff.1 HY4.out).1).trans HY4.out); have HZ5 := Lib.hid (heap_alloc_new w5 (.cells #[.int .i64 y.a0, .int .i64 y.a1, .int .i64 y.a2, .int .i64 y.a3, .int .i64 y.a4, .int .i64 y.a5, .int .i64 y.a6, .int .i64 y.a7, .int .i64 y.a8, .int .i64 y.a9, .int .i64 y.a10, .int .i64 y.l, .int .i64 y.i, .bool y.bk] 37)); clear HX4 HM4 HY4 hb5 hb6 x0 x1 x2 x3 x4 x5 x6 x7 x8 x9 x10 x11 x12 x13))
            obtain ⟨W0, hW0⟩ : ∃ W0, (w5.alloc (.cells #[.int .i64 y.a0, .int .i64 y.a1, .int .i64 y.a2, .int .i64 y.a3, .int .i64 y.a4, .int .i64 y.a5, .int .i64 y.a6, .int .i64 y.a7, .int .i64 y.a8, .int .i64 y.a9, .int .i64 y.a10, .int .i64 y.l, .int .i64 y.i, .bool y.bk] 37)) = W0 := ⟨_, rfl⟩
            rw [hW0] at HX5 HM5 HB5 HY5 HZ5
            rw [hW0]
            clear hW0
            obtain ⟨ad2, hA2, ha⟩ := (HA.out.below HB5.out (Nat.le_refl _)).at_ hlt
            rw [HE.out] at ha
            obtain rfl := Option.some.inj hA2
            have HE5 := Lib.hid ha
            obtain ⟨A2, c2, m1, m2, m3, m4, m5, m6, m7⟩ := HM5.out
            have HMB := Lib.hid m1
            clear ha m1 m2 m3 m4 m5 m6 m7
            have hS := fun w9 (h : Below W0.heap.size W0 w9) => ld_s HY5 HZ5 HE5 HMB h
            refine wp_region_held_drew (S := fun w9 => Below W0.heap.size W0 w9 ∧ w9.cell? ⟨w4.heap.size, 0, none⟩ = some (.int .i64 y.a0) ∧ w9.cell? ⟨w4.heap.size, 1, none⟩ = some (.int .i64 y.a1) ∧ w9.cell? ⟨w4.heap.size, 2, none⟩ = some (.int .i64 y.a2) ∧ w9.cell? ⟨w4.heap.size, 3, none⟩ = some (.int .i64 y.a3) ∧ w9.cell? ⟨w4.heap.size, 4, none⟩ = some (.int .i64 y.a4) ∧ w9.cell? ⟨w4.heap.size, 5, none⟩ = some (.int .i64 y.a5) ∧ w9.cell? ⟨w4.heap.size, 6, none⟩ = some (.int .i64 y.a6) ∧ w9.cell? ⟨w4.heap.size, 7, none⟩ = some (.int .i64 y.a7) ∧ w9.cell? ⟨w4.heap.size, 8, none⟩ = some (.int .i64 y.a8) ∧ w9.cell? ⟨w4.heap.size, 9, none⟩ = some (.int .i64 y.a9) ∧ w9.cell? ⟨w4.heap.size, 10, none⟩ = some (.int .i64 y.a10) ∧ w9.cell? ⟨w4.heap.size, 11, none⟩ = some (.int .i64 y.l) ∧ w9.cell? ⟨w4.heap.size, 12, none⟩ = some (.int .i64 y.i) ∧ w9.cell? ⟨w4.heap.size, 13, none⟩ = some (.bool y.bk) ∧ w9.cell? ⟨w5.heap.size, 0, none⟩ = some (.int .i64 y.a0) ∧ w9.cell? ⟨w5.heap.size, 1, none⟩ = some (.int .i64 y.a1) ∧ w9.cell? ⟨w5.heap.size, 2, none⟩ = some (.int .i64 y.a2) ∧ w9.cell? ⟨w5.heap.size, 3, none⟩ = some (.int .i64 y.a3) ∧ w9.cell? ⟨w5.heap.size, 4, none⟩ = some (.int .i64 y.a4) ∧ w9.cell? ⟨w5.heap.size, 5, none⟩ = some (.int .i64 y.a5) ∧ w9.cell? ⟨w5.heap.size, 6, none⟩ = some (.int .i64 y.a6) ∧ w9.cell? ⟨w5.heap.size, 7, none⟩ = some (.int .i64 y.a7) ∧ w9.cell? ⟨w5.heap.size, 8, none⟩ = some (.int .i64 y.a8) ∧ w9.cell? ⟨w5.heap.size, 9, none⟩ = some (.int .i64 y.a9) ∧ w9.cell? ⟨w5.heap.size, 10, none⟩ = some (.int .i64 y.a10) ∧ w9.cell? ⟨w5.heap.size, 11, none⟩ = some (.int .i64 y.l) ∧ w9.cell? ⟨w5.heap.size, 12, none⟩ = some (.int .i64 y.i) ∧ w9.cell? ⟨w5.heap.size, 13, none⟩ = some (.bool y.bk) ∧ w9.cell? (ad.add (k * 14)) = some (.int .i64 e.a0) ∧ w9.cell? ⟨((ad.add (k * 14))).block, ((ad.add (k * 14))).off + 1, none⟩ = some (.int .i64 e.a1) ∧ w9.cell? ⟨((ad.add (k * 14))).block, ((ad.add (k * 14))).off + 2, none⟩ = some (.int .i64 e.a2) ∧ w9.cell? ⟨((ad.add (k * 14))).block, ((ad.add (k * 14))).off + 3, none⟩ = some (.int .i64 e.a3) ∧ w9.cell? ⟨((ad.add (k * 14))).block, ((ad.add (k * 14))).off + 4, none⟩ = some (.int .i64 e.a4) ∧ w9.cell? ⟨((ad.add (k * 14))).block, ((ad.add (k * 14))).off + 5, none⟩ = some (.int .i64 e.a5) ∧ w9.cell? ⟨((ad.add (k * 14))).block, ((ad.add (k * 14))).off + 6, none⟩ = some (.int .i64 e.a6) ∧ w9.cell? ⟨((ad.add (k * 14))).block, ((ad.add (k * 14))).off + 7, none⟩ = some (.int .i64 e.a7) ∧ w9.cell? ⟨((ad.add (k * 14))).block, ((ad.add (k * 14))).off + 8, none⟩ = some (.int .i64 e.a8) ∧ w9.cell? ⟨((ad.add (k * 14))).block, ((ad.add (k * 14))).off + 9, none⟩ = some (.int .i64 e.a9) ∧ w9.cell? ⟨((ad.add (k * 14))).block, ((ad.add (k * 14))).off + 10, none⟩ = some (.int .i64 e.a10) ∧ w9.cell? ⟨((ad.add (k * 14))).block, ((ad.add (k * 14))).off + 11, none⟩ = some (.int .i64 e.l) ∧ w9.cell? ⟨((ad.add (k * 14))).block, ((ad.add (k * 14))).off + 12, none⟩ = some (.int .i64 e.i) ∧ w9.cell? ⟨((ad.add (k * 14))).block, ((ad.add (k * 14))).off + 13, none⟩ = some (.bool e.bk) ∧ w9.cell? ⟨gm, 0, none⟩ = some (.int .i64 room) ∧ w9.cell? ⟨gm, 1, none⟩ = some (.slice A2 S2.length c2)) (by kernel_rfl) (hS _ (bD (bR W0))) (fun hHeld => ?_)
            refine wpAnyH_take (i := 0) (oi := ?_) (v := ?_) ?hiu1 (by as_aux_lemma => kernel_rfl) (by as_aux_lemma => kernel_rfl) (by as_aux_lemma => kernel_rfl) ?hQu1 (Or.inl ⟨?hwu1, ?hyu1⟩) hHeld ?restu1
            case hiu1 => simp only [List.getElem?_toArray, List.getElem?_cons_zero, List.getElem?_cons_succ]; rfl
            case hwu1 => rfl
            case hyu1 => (intro w9 hSw; (try dsimp only at hSw); go_simp; (try with_reducible rfl))
            case hQu1 => exact fun _ _ _ h => h
            (try simp only [Act.put, List.setIfInBounds_toArray, List.set_cons_zero, List.set_cons_succ])
            refine wpAnyH_take (i := 1) (oi := ?_) (v := ?_) ?hiu2 (by as_aux_lemma => kernel_rfl) (by as_aux_lemma => kernel_rfl) (by as_aux_lemma => kernel_rfl) ?hQu2 (Or.inl ⟨?hwu2, ?hyu2⟩) hHeld ?restu2
            case hiu2 => simp only [List.getElem?_toArray, List.getElem?_cons_zero, List.getElem?_cons_succ]; rfl
            case hwu2 => rfl
            case hyu2 => (intro w9 hSw; (try dsimp only at hSw); go_simp; (try with_reducible rfl))
            case hQu2 => exact fun _ _ _ h => h
            (try simp only [Act.put, List.setIfInBounds_toArray, List.set_cons_zero, List.set_cons_succ])
            refine wpAnyH_take (i := 2) (oi := ?_) (v := ?_) ?hiu3 (by as_aux_lemma => kernel_rfl) (by as_aux_lemma => kernel_rfl) (by as_aux_lemma => kernel_rfl) ?hQu3 (Or.inl ⟨?hwu3, ?hyu3⟩) hHeld ?restu3
            case hiu3 => simp only [List.getElem?_toArray, List.getElem?_cons_zero, List.getElem?_cons_succ]; rfl
            case hwu3 => rfl
            case hyu3 => (intro w9 hSw; (try dsimp only at hSw); go_simp; (try with_reducible rfl))
            case hQu3 => exact fun _ _ _ h => h
            (try simp only [Act.put, List.setIfInBounds_toArray, List.set_cons_zero, List.set_cons_succ])
            refine wpAnyH_take (i := 3) (oi := ?_) (v := ?_) ?hiu4 (by as_aux_lemma => kernel_rfl) (by as_aux_lemma => kernel_rfl) (by as_aux_lemma => kernel_rfl) ?hQu4 (Or.inl ⟨?hwu4, ?hyu4⟩) hHeld ?restu4
            case hiu4 => simp only [List.getElem?_toArray, List.getElem?_cons_zero, List.getElem?_cons_succ]; rfl
            case hwu4 => rfl
            case hyu4 => (intro w9 hSw; (try dsimp only at hSw); go_simp; (try with_reducible rfl))
            case hQu4 => exact fun _ _ _ h => h
            (try simp only [Act.put, List.setIfInBounds_toArray, List.set_cons_zero, List.set_cons_succ])
            refine wpAnyH_take (i := 4) (oi := ?_) (v := ?_) ?hiu5 (by as_aux_lemma => kernel_rfl) (by as_aux_lemma => kernel_rfl) (by as_aux_lemma => kernel_rfl) ?hQu5 (Or.inl ⟨?hwu5, ?hyu5⟩) hHeld ?restu5
            case hiu5 => simp only [List.getElem?_toArray, List.getElem?_cons_zero, List.getElem?_cons_succ]; rfl
            case hwu5 => rfl
            case hyu5 => (intro w9 hSw; (try dsimp only at hSw); go_simp; (try with_reducible rfl))
            case hQu5 => exact fun _ _ _ h => h
            (try simp only [Act.put, List.setIfInBounds_toArray, List.set_cons_zero, List.set_cons_succ])
            refine wpAnyH_take (i := 5) (oi := ?_) (v := ?_) ?hiu6 (by as_aux_lemma => kernel_rfl) (by as_aux_lemma => kernel_rfl) (by as_aux_lemma => kernel_rfl) ?hQu6 (Or.inl ⟨?hwu6, ?hyu6⟩) hHeld ?restu6
            case hiu6 => simp only [List.getElem?_toArray, List.getElem?_cons_zero, List.getElem?_cons_succ]; rfl
            case hwu6 => rfl
            case hyu6 => (intro w9 hSw; (try dsimp only at hSw); go_simp; (try with_reducible rfl))
            case hQu6 => exact fun _ _ _ h => h
            (try simp only [Act.put, List.setIfInBounds_toArray, List.set_cons_zero, List.set_cons_succ])
            refine wpAnyH_take (i := 6) (oi := ?_) (v := ?_) ?hiu7 (by as_aux_lemma => kernel_rfl) (by as_aux_lemma => kernel_rfl) (by as_aux_lemma => kernel_rfl) ?hQu7 (Or.inl ⟨?hwu7, ?hyu7⟩) hHeld ?restu7
            case hiu7 => simp only [List.getElem?_toArray, List.getElem?_cons_zero, List.getElem?_cons_succ]; rfl
            case hwu7 => rfl
            case hyu7 => (intro w9 hSw; (try dsimp only at hSw); go_simp; (try with_reducible rfl))
            case hQu7 => exact fun _ _ _ h => h
            (try simp only [Act.put, List.setIfInBounds_toArray, List.set_cons_zero, List.set_cons_succ])
            refine wpAnyH_take (i := 7) (oi := ?_) (v := ?_) ?hiu8 (by as_aux_lemma => kernel_rfl) (by as_aux_lemma => kernel_rfl) (by as_aux_lemma => kernel_rfl) ?hQu8 (Or.inl ⟨?hwu8, ?hyu8⟩) hHeld ?restu8
            case hiu8 => simp only [List.getElem?_toArray, List.getElem?_cons_zero, List.getElem?_cons_succ]; rfl
            case hwu8 => rfl
            case hyu8 => (intro w9 hSw; (try dsimp only at hSw); go_simp; (try with_reducible rfl))
            case hQu8 => exact fun _ _ _ h => h
            (try simp only [Act.put, List.setIfInBounds_toArray, List.set_cons_zero, List.set_cons_succ])
            refine wpAnyH_take (i := 8) (oi := ?_) (v := ?_) ?hiu9 (by as_aux_lemma => kernel_rfl) (by as_aux_lemma => kernel_rfl) (by as_aux_lemma => kernel_rfl) ?hQu9 (Or.inl ⟨?hwu9, ?hyu9⟩) hHeld ?restu9
            case hiu9 => simp only [List.getElem?_toArray, List.getElem?_cons_zero, List.getElem?_cons_succ]; rfl
            case hwu9 => rfl
            case hyu9 => (intro w9 hSw; (try dsimp only at hSw); go_simp; (try with_reducible rfl))
            case hQu9 => exact fun _ _ _ h => h
            (try simp only [Act.put, List.setIfInBounds_toArray, List.set_cons_zero, List.set_cons_succ])
            refine wpAnyH_take (i := 9) (oi := ?_) (v := ?_) ?hiu10 (by as_aux_lemma => kernel_rfl) (by as_aux_lemma => kernel_rfl) (by as_aux_lemma => kernel_rfl) ?hQu10 (Or.inl ⟨?hwu10, ?hyu10⟩) hHeld ?restu10
            case hiu10 => simp only [List.getElem?_toArray, List.getElem?_cons_zero, List.getElem?_cons_succ]; rfl
            case hwu10 => rfl
            case hyu10 => (intro w9 hSw; (try dsimp only at hSw); go_simp; (try with_reducible rfl))
            case hQu10 => exact fun _ _ _ h => h
            (try simp only [Act.put, List.setIfInBounds_toArray, List.set_cons_zero, List.set_cons_succ])
            refine wpAnyH_take (i := 10) (oi := ?_) (v := ?_) ?hiu11 (by as_aux_lemma => kernel_rfl) (by as_aux_lemma => kernel_rfl) (by as_aux_lemma => kernel_rfl) ?hQu11 (Or.inl ⟨?hwu11, ?hyu11⟩) hHeld ?restu11
            case hiu11 => simp only [List.getElem?_toArray, List.getElem?_cons_zero, List.getElem?_cons_succ]; rfl
            case hwu11 => rfl
            case hyu11 => (intro w9 hSw; (try dsimp only at hSw); go_simp; (try with_reducible rfl))
            case hQu11 => exact fun _ _ _ h => h
            (try simp only [Act.put, List.setIfInBounds_toArray, List.set_cons_zero, List.set_cons_succ])
            refine wpAnyH_take (i := 11) (oi := ?_) (v := ?_) ?hiu12 (by as_aux_lemma => kernel_rfl) (by as_aux_lemma => kernel_rfl) (by as_aux_lemma => kernel_rfl) ?hQu12 (Or.inl ⟨?hwu12, ?hyu12⟩) hHeld ?restu12
            case hiu12 => simp only [List.getElem?_toArray, List.getElem?_cons_zero, List.getElem?_cons_succ]; rfl
            case hwu12 => rfl
            case hyu12 => (intro w9 hSw; (try dsimp only at hSw); go_simp; (try with_reducible rfl))
            case hQu12 => exact fun _ _ _ h => h
            (try simp only [Act.put, List.setIfInBounds_toArray, List.set_cons_zero, List.set_cons_succ])
            refine wpAnyH_take (i := 12) (oi := ?_) (v := ?_) ?hiu13 (by as_aux_lemma => kernel_rfl) (by as_aux_lemma => kernel_rfl) (by as_aux_lemma => kernel_rfl) ?hQu13 (Or.inl ⟨?hwu13, ?hyu13⟩) hHeld ?restu13
            case hiu13 => simp only [List.getElem?_toArray, List.getElem?_cons_zero, List.getElem?_cons_succ]; rfl
            case hwu13 => rfl
            case hyu13 => (intro w9 hSw; (try dsimp only at hSw); go_simp; (try with_reducible rfl))
            case hQu13 => exact fun _ _ _ h => h
            (try simp only [Act.put, List.setIfInBounds_toArray, List.set_cons_zero, List.set_cons_succ])
            refine wpAnyH_take (i := 13) (oi := ?_) (v := ?_) ?hiu14 (by as_aux_lemma => kernel_rfl) (by as_aux_lemma => kernel_rfl) (by as_aux_lemma => kernel_rfl) ?hQu14 (Or.inl ⟨?hwu14, ?hyu14⟩) hHeld ?restu14
            case hiu14 => simp only [List.getElem?_toArray, List.getElem?_cons_zero, List.getElem?_cons_succ]; rfl
            case hwu14 => rfl
            case hyu14 => (intro w9 hSw; (try dsimp only at hSw); go_simp; (try with_reducible rfl))
            case hQu14 => exact fun _ _ _ h => h
            (try simp only [Act.put, List.setIfInBounds_toArray, List.set_cons_zero, List.set_cons_succ])
            refine wpAnyH_take (i := 14) (oi := ?_) (v := ?_) ?hiu15 (by as_aux_lemma => kernel_rfl) (by as_aux_lemma => kernel_rfl) (by as_aux_lemma => kernel_rfl) ?hQu15 (Or.inl ⟨?hwu15, ?hyu15⟩) hHeld ?restu15
            case hiu15 => simp only [List.getElem?_toArray, List.getElem?_cons_zero, List.getElem?_cons_succ]; rfl
            case hwu15 => rfl
            case hyu15 => (intro w9 hSw; (try dsimp only at hSw); go_simp; (try with_reducible rfl))
            case hQu15 => exact fun _ _ _ h => h
            (try simp only [Act.put, List.setIfInBounds_toArray, List.set_cons_zero, List.set_cons_succ])
            refine wpAnyH_take (i := 16) (oi := ?_) (v := ?_) ?hiu16 (by as_aux_lemma => kernel_rfl) (by as_aux_lemma => kernel_rfl) (by as_aux_lemma => kernel_rfl) ?hQu16 (Or.inl ⟨?hwu16, ?hyu16⟩) hHeld ?restu16
            case hiu16 => simp only [List.getElem?_toArray, List.getElem?_cons_zero, List.getElem?_cons_succ]; rfl
            case hwu16 => rfl
            case hyu16 => (intro w9 hSw; (try dsimp only at hSw); go_simp; (try with_reducible rfl))
            case hQu16 => exact fun _ _ _ h => h
            (try simp only [Act.put, List.setIfInBounds_toArray, List.set_cons_zero, List.set_cons_succ])
            refine wpAnyH_take (i := 17) (oi := ?_) (v := ?_) ?hiu17 (by as_aux_lemma => kernel_rfl) (by as_aux_lemma => kernel_rfl) (by as_aux_lemma => kernel_rfl) ?hQu17 (Or.inl ⟨?hwu17, ?hyu17⟩) hHeld ?restu17
            case hiu17 => simp only [List.getElem?_toArray, List.getElem?_cons_zero, List.getElem?_cons_succ]; rfl
            case hwu17 => rfl
            case hyu17 => (intro w9 hSw; (try dsimp only at hSw); go_simp; (try with_reducible rfl))
            case hQu17 => exact fun _ _ _ h => h
            (try simp only [Act.put, List.setIfInBounds_toArray, List.set_cons_zero, List.set_cons_succ])
            refine wpAnyH_take (i := 18) (oi := ?_) (v := ?_) ?hiu18 (by as_aux_lemma => kernel_rfl) (by as_aux_lemma => kernel_rfl) (by as_aux_lemma => kernel_rfl) ?hQu18 (Or.inl ⟨?hwu18, ?hyu18⟩) hHeld ?restu18
            case hiu18 => simp only [List.getElem?_toArray, List.getElem?_cons_zero, List.getElem?_cons_succ]; rfl
            case hwu18 => rfl
            case hyu18 => (intro w9 hSw; (try dsimp only at hSw); go_simp; (try with_reducible rfl))
            case hQu18 => exact fun _ _ _ h => h
            (try simp only [Act.put, List.setIfInBounds_toArray, List.set_cons_zero, List.set_cons_succ])
            refine wpAnyH_take (i := 19) (oi := ?_) (v := ?_) ?hiu19 (by as_aux_lemma => kernel_rfl) (by as_aux_lemma => kernel_rfl) (by as_aux_lemma => kernel_rfl) ?hQu19 (Or.inl ⟨?hwu19, ?hyu19⟩) hHeld ?restu19
            case hiu19 => simp only [List.getElem?_toArray, List.getElem?_cons_zero, List.getElem?_cons_succ]; rfl
            case hwu19 => rfl
            case hyu19 => (intro w9 hSw; (try dsimp only at hSw); go_simp; (try with_reducible rfl))
            case hQu19 => exact fun _ _ _ h => h
            (try simp only [Act.put, List.setIfInBounds_toArray, List.set_cons_zero, List.set_cons_succ])
            refine wpAnyH_take (i := 20) (oi := ?_) (v := ?_) ?hiu20 (by as_aux_lemma => kernel_rfl) (by as_aux_lemma => kernel_rfl) (by as_aux_lemma => kernel_rfl) ?hQu20 (Or.inl ⟨?hwu20, ?hyu20⟩) hHeld ?restu20
            case hiu20 => simp only [List.getElem?_toArray, List.getElem?_cons_zero, List.getElem?_cons_succ]; rfl
            case hwu20 => rfl
            case hyu20 => (intro w9 hSw; (try dsimp only at hSw); go_simp; (try with_reducible rfl))
            case hQu20 => exact fun _ _ _ h => h
            (try simp only [Act.put, List.setIfInBounds_toArray, List.set_cons_zero, List.set_cons_succ])
            refine wpAnyH_ready (rs := [15]) (by as_aux_lemma => kernel_rfl) (by simp) (AllReadyH.cons (o := ?_) ?hiu21 (fun K hK => ?_) AllReadyH.nil)
            case hiu21 => simp only [List.getElem?_toArray, List.getElem?_cons_zero, List.getElem?_cons_succ]; rfl
            (try rw [if_pos (by rfl)])
            go_wp2_with fail
            refine (ledLen_any gx bx room S2 _ (HX5.out.below hHeld.1 (Nat.le_refl _))).mono ?_
            rintro e w6 ⟨rfl, hb6⟩
            dsimp only
            refine hK.out _ _ ?_ (fun hHeld => ?_)
            · exact hS _ (bT hHeld.1 hb6)
            clear hK K
            (try simp only [Act.put, List.setIfInBounds_toArray, List.set_cons_zero, List.set_cons_succ])
            refine wpAnyH_take (i := 21) (oi := ?_) (v := ?_) ?hiu22 (by as_aux_lemma => kernel_rfl) (by as_aux_lemma => kernel_rfl) (by as_aux_lemma => kernel_rfl) ?hQu22 (Or.inl ⟨?hwu22, ?hyu22⟩) hHeld ?restu22
            case hiu22 => simp only [List.getElem?_toArray, List.getElem?_cons_zero, List.getElem?_cons_succ]; rfl
            case hwu22 => rfl
            case hyu22 => (intro w9 hSw; (try dsimp only at hSw); go_simp; (try with_reducible rfl))
            case hQu22 => exact fun _ _ _ h => h
            (try simp only [Act.put, List.setIfInBounds_toArray, List.set_cons_zero, List.set_cons_succ])
            refine wpAnyH_take (i := 22) (oi := ?_) (v := ?_) ?hiu23 (by as_aux_lemma => kernel_rfl) (by as_aux_lemma => kernel_rfl) (by as_aux_lemma => kernel_rfl) ?hQu23 (Or.inl ⟨?hwu23, ?hyu23⟩) hHeld ?restu23
            case hiu23 => simp only [List.getElem?_toArray, List.getElem?_cons_zero, List.getElem?_cons_succ]; rfl
            case hwu23 => rfl
            case hyu23 => (intro w9 hSw; (try dsimp only at hSw); go_simp; (try with_reducible rfl))
            case hQu23 => exact fun _ _ _ h => h
            (try simp only [Act.put, List.setIfInBounds_toArray, List.set_cons_zero, List.set_cons_succ])
            refine wpAnyH_take (i := 23) (oi := ?_) (v := ?_) ?hiu24 (by as_aux_lemma => kernel_rfl) (by as_aux_lemma => kernel_rfl) (by as_aux_lemma => kernel_rfl) ?hQu24 (Or.inl ⟨?hwu24, ?hyu24⟩) hHeld ?restu24
            case hiu24 => simp only [List.getElem?_toArray, List.getElem?_cons_zero, List.getElem?_cons_succ]; rfl
            case hwu24 => rfl
            case hyu24 => (intro w9 hSw; (try dsimp only at hSw); go_simp; (try with_reducible rfl))
            case hQu24 => exact fun _ _ _ h => h
            (try simp only [Act.put, List.setIfInBounds_toArray, List.set_cons_zero, List.set_cons_succ])
            refine wpAnyH_take (i := 24) (oi := ?_) (v := ?_) ?hiu25 (by as_aux_lemma => kernel_rfl) (by as_aux_lemma => kernel_rfl) (by as_aux_lemma => kernel_rfl) ?hQu25 (Or.inl ⟨?hwu25, ?hyu25⟩) hHeld ?restu25
            case hiu25 => simp only [List.getElem?_toArray, List.getElem?_cons_zero, List.getElem?_cons_succ]; rfl
            case hwu25 => rfl
            case hyu25 => (intro w9 hSw; (try dsimp only at hSw); go_simp; (try with_reducible rfl))
            case hQu25 => exact fun _ _ _ h => h
            (try simp only [Act.put, List.setIfInBounds_toArray, List.set_cons_zero, List.set_cons_succ])
            refine wpAnyH_take (i := 26) (oi := ?_) (v := ?_) ?hiu26 (by as_aux_lemma => kernel_rfl) (by as_aux_lemma => kernel_rfl) (by as_aux_lemma => kernel_rfl) ?hQu26 (Or.inl ⟨?hwu26, ?hyu26⟩) hHeld ?restu26
            case hiu26 => simp only [List.getElem?_toArray, List.getElem?_cons_zero, List.getElem?_cons_succ]; rfl
            case hwu26 => rfl
            case hyu26 => (intro w9 hSw; (try dsimp only at hSw); go_simp; (try with_reducible rfl))
            case hQu26 => exact fun _ _ _ h => h
            (try simp only [Act.put, List.setIfInBounds_toArray, List.set_cons_zero, List.set_cons_succ])
            refine wpAnyH_take (i := 27) (oi := ?_) (v := ?_) ?hiu27 (by as_aux_lemma => kernel_rfl) (by as_aux_lemma => kernel_rfl) (by as_aux_lemma => kernel_rfl) ?hQu27 (Or.inl ⟨?hwu27, ?hyu27⟩) hHeld ?restu27
            case hiu27 => simp only [List.getElem?_toArray, List.getElem?_cons_zero, List.getElem?_cons_succ]; rfl
            case hwu27 => rfl
            case hyu27 => (intro w9 hSw; (try dsimp only at hSw); go_simp; (try with_reducible rfl))
            case hQu27 => exact fun _ _ _ h => h
            (try simp only [Act.put, List.setIfInBounds_toArray, List.set_cons_zero, List.set_cons_succ])
            refine wpAnyH_take (i := 28) (oi := ?_) (v := ?_) ?hiu28 (by as_aux_lemma => kernel_rfl) (by as_aux_lemma => kernel_rfl) (by as_aux_lemma => kernel_rfl) ?hQu28 (Or.inl ⟨?hwu28, ?hyu28⟩) hHeld ?restu28
            case hiu28 => simp only [List.getElem?_toArray, List.getElem?_cons_zero, List.getElem?_cons_succ]; rfl
            case hwu28 => rfl
            case hyu28 => (intro w9 hSw; (try dsimp only at hSw); go_simp; (try with_reducible rfl))
            case hQu28 => exact fun _ _ _ h => h
            (try simp only [Act.put, List.setIfInBounds_toArray, List.set_cons_zero, List.set_cons_succ])
            refine wpAnyH_take (i := 29) (oi := ?_) (v := ?_) ?hiu29 (by as_aux_lemma => kernel_rfl) (by as_aux_lemma => kernel_rfl) (by as_aux_lemma => kernel_rfl) ?hQu29 (Or.inl ⟨?hwu29, ?hyu29⟩) hHeld ?restu29
            case hiu29 => simp only [List.getElem?_toArray, List.getElem?_cons_zero, List.getElem?_cons_succ]; rfl
            case hwu29 => rfl
            case hyu29 => (intro w9 hSw; (try dsimp only at hSw); go_simp; (try with_reducible rfl))
            case hQu29 => exact fun _ _ _ h => h
            (try simp only [Act.put, List.setIfInBounds_toArray, List.set_cons_zero, List.set_cons_succ])
            refine wpAnyH_take (i := 30) (oi := ?_) (v := ?_) ?hiu30 (by as_aux_lemma => kernel_rfl) (by as_aux_lemma => kernel_rfl) (by as_aux_lemma => kernel_rfl) ?hQu30 (Or.inl ⟨?hwu30, ?hyu30⟩) hHeld ?restu30
            case hiu30 => simp only [List.getElem?_toArray, List.getElem?_cons_zero, List.getElem?_cons_succ]; rfl
            case hwu30 => rfl
            case hyu30 => (intro w9 hSw; (try dsimp only at hSw); go_simp; (try with_reducible rfl))
            case hQu30 => exact fun _ _ _ h => h
            (try simp only [Act.put, List.setIfInBounds_toArray, List.set_cons_zero, List.set_cons_succ])
            refine wpAnyH_take (i := 31) (oi := ?_) (v := ?_) ?hiu31 (by as_aux_lemma => kernel_rfl) (by as_aux_lemma => kernel_rfl) (by as_aux_lemma => kernel_rfl) ?hQu31 (Or.inl ⟨?hwu31, ?hyu31⟩) hHeld ?restu31
            case hiu31 => simp only [List.getElem?_toArray, List.getElem?_cons_zero, List.getElem?_cons_succ]; rfl
            case hwu31 => rfl
            case hyu31 => (intro w9 hSw; (try dsimp only at hSw); go_simp; (try with_reducible rfl))
            case hQu31 => exact fun _ _ _ h => h
            (try simp only [Act.put, List.setIfInBounds_toArray, List.set_cons_zero, List.set_cons_succ])
            refine wpAnyH_take (i := 32) (oi := ?_) (v := ?_) ?hiu32 (by as_aux_lemma => kernel_rfl) (by as_aux_lemma => kernel_rfl) (by as_aux_lemma => kernel_rfl) ?hQu32 (Or.inl ⟨?hwu32, ?hyu32⟩) hHeld ?restu32
            case hiu32 => simp only [List.getElem?_toArray, List.getElem?_cons_zero, List.getElem?_cons_succ]; rfl
            case hwu32 => rfl
            case hyu32 => (intro w9 hSw; (try dsimp only at hSw); go_simp; (try with_reducible rfl))
            case hQu32 => exact fun _ _ _ h => h
            (try simp only [Act.put, List.setIfInBounds_toArray, List.set_cons_zero, List.set_cons_succ])
            refine wpAnyH_take (i := 33) (oi := ?_) (v := ?_) ?hiu33 (by as_aux_lemma => kernel_rfl) (by as_aux_lemma => kernel_rfl) (by as_aux_lemma => kernel_rfl) ?hQu33 (Or.inl ⟨?hwu33, ?hyu33⟩) hHeld ?restu33
            case hiu33 => simp only [List.getElem?_toArray, List.getElem?_cons_zero, List.getElem?_cons_succ]; rfl
            case hwu33 => rfl
            case hyu33 => (intro w9 hSw; (try dsimp only at hSw); go_simp; (try with_reducible rfl))
            case hQu33 => exact fun _ _ _ h => h
            (try simp only [Act.put, List.setIfInBounds_toArray, List.set_cons_zero, List.set_cons_succ])
            refine wpAnyH_take (i := 34) (oi := ?_) (v := ?_) ?hiu34 (by as_aux_lemma => kernel_rfl) (by as_aux_lemma => kernel_rfl) (by as_aux_lemma => kernel_rfl) ?hQu34 (Or.inl ⟨?hwu34, ?hyu34⟩) hHeld ?restu34
            case hiu34 => simp only [List.getElem?_toArray, List.getElem?_cons_zero, List.getElem?_cons_succ]; rfl
            case hwu34 => rfl
            case hyu34 => (intro w9 hSw; (try dsimp only at hSw); go_simp; (try with_reducible rfl))
            case hQu34 => exact fun _ _ _ h => h
            (try simp only [Act.put, List.setIfInBounds_toArray, List.set_cons_zero, List.set_cons_succ])
            refine wpAnyH_take (i := 35) (oi := ?_) (v := ?_) ?hiu35 (by as_aux_lemma => kernel_rfl) (by as_aux_lemma => kernel_rfl) (by as_aux_lemma => kernel_rfl) ?hQu35 (Or.inl ⟨?hwu35, ?hyu35⟩) hHeld ?restu35
            case hiu35 => simp only [List.getElem?_toArray, List.getElem?_cons_zero, List.getElem?_cons_succ]; rfl
            case hwu35 => rfl
            case hyu35 => (intro w9 hSw; (try dsimp only at hSw); go_simp; (try with_reducible rfl))
            case hQu35 => exact fun _ _ _ h => h
            (try simp only [Act.put, List.setIfInBounds_toArray, List.set_cons_zero, List.set_cons_succ])
            refine wpAnyH_ready (rs := [25]) (by as_aux_lemma => kernel_rfl) (by simp) (AllReadyH.cons (o := ?_) ?hiu36 (fun K hK => ?_) AllReadyH.nil)
            case hiu36 => simp only [List.getElem?_toArray, List.getElem?_cons_zero, List.getElem?_cons_succ]; rfl
            (try rw [if_pos (by rfl)])
            go_wp2_with fail
            refine (ledFull_any gx bx room S2 _ (HX5.out.below hHeld.1 (Nat.le_refl _))).mono ?_
            rintro e w6 ⟨rfl, hb6⟩
            dsimp only
            refine hK.out _ _ ?_ (fun hHeld => ?_)
            · exact hS _ (bT hHeld.1 hb6)
            clear hK K
            (try simp only [Act.put, List.setIfInBounds_toArray, List.set_cons_zero, List.set_cons_succ])
            refine wpAnyH_take (i := 36) (oi := ?_) (v := ?_) ?hiu37 (by as_aux_lemma => kernel_rfl) (by as_aux_lemma => kernel_rfl) (by as_aux_lemma => kernel_rfl) ?hQu37 (Or.inl ⟨?hwu37, ?hyu37⟩) hHeld ?restu37
            case hiu37 => simp only [List.getElem?_toArray, List.getElem?_cons_zero, List.getElem?_cons_succ]; rfl
            case hwu37 => rfl
            case hyu37 => (intro w9 hSw; (try dsimp only at hSw); go_simp; (try with_reducible rfl))
            case hQu37 => exact fun _ _ _ h => h
            (try simp only [Act.put, List.setIfInBounds_toArray, List.set_cons_zero, List.set_cons_succ])
            refine wpAnyH_take (i := 37) (oi := ?_) (v := ?_) ?hiu38 (by as_aux_lemma => kernel_rfl) (by as_aux_lemma => kernel_rfl) (by as_aux_lemma => kernel_rfl) ?hQu38 (Or.inl ⟨?hwu38, ?hyu38⟩) hHeld ?restu38
            case hiu38 => simp only [List.getElem?_toArray, List.getElem?_cons_zero, List.getElem?_cons_succ]; rfl
            case hwu38 => rfl
            case hyu38 => (intro w9 hSw; (try dsimp only at hSw); go_simp; (try with_reducible rfl))
            case hQu38 => exact fun _ _ _ h => h
            (try simp only [Act.put, List.setIfInBounds_toArray, List.set_cons_zero, List.set_cons_succ])
            refine wpAnyH_take (i := 38) (oi := ?_) (v := ?_) ?hiu39 (by as_aux_lemma => kernel_rfl) (by as_aux_lemma => kernel_rfl) (by as_aux_lemma => kernel_rfl) ?hQu39 (Or.inl ⟨?hwu39, ?hyu39⟩) hHeld ?restu39
            case hiu39 => simp only [List.getElem?_toArray, List.getElem?_cons_zero, List.getElem?_cons_succ]; rfl
            case hwu39 => rfl
            case hyu39 => (intro w9 hSw; (try dsimp only at hSw); go_simp; (try with_reducible rfl))
            case hQu39 => exact fun _ _ _ h => h
            (try simp only [Act.put, List.setIfInBounds_toArray, List.set_cons_zero, List.set_cons_succ])
            refine wpAnyH_take (i := 39) (oi := ?_) (v := ?_) ?hiu40 (by as_aux_lemma => kernel_rfl) (by as_aux_lemma => kernel_rfl) (by as_aux_lemma => kernel_rfl) ?hQu40 (Or.inl ⟨?hwu40, ?hyu40⟩) hHeld ?restu40
            case hiu40 => simp only [List.getElem?_toArray, List.getElem?_cons_zero, List.getElem?_cons_succ]; rfl
            case hwu40 => rfl
            case hyu40 => (intro w9 hSw; (try dsimp only at hSw); go_simp; (try with_reducible rfl))
            case hQu40 => exact fun _ _ _ h => h
            (try simp only [Act.put, List.setIfInBounds_toArray, List.set_cons_zero, List.set_cons_succ])
            refine wpAnyH_take (i := 40) (oi := ?_) (v := ?_) ?hiu41 (by as_aux_lemma => kernel_rfl) (by as_aux_lemma => kernel_rfl) (by as_aux_lemma => kernel_rfl) ?hQu41 (Or.inl ⟨?hwu41, ?hyu41⟩) hHeld ?restu41
            case hiu41 => simp only [List.getElem?_toArray, List.getElem?_cons_zero, List.getElem?_cons_succ]; rfl
            case hwu41 => rfl
            case hyu41 => (intro w9 hSw; (try dsimp only at hSw); go_simp; (try with_reducible rfl))
            case hQu41 => exact fun _ _ _ h => h
            (try simp only [Act.put, List.setIfInBounds_toArray, List.set_cons_zero, List.set_cons_succ])
            refine wpAnyH_take (i := 41) (oi := ?_) (v := ?_) ?hiu42 (by as_aux_lemma => kernel_rfl) (by as_aux_lemma => kernel_rfl) (by as_aux_lemma => kernel_rfl) ?hQu42 (Or.inl ⟨?hwu42, ?hyu42⟩) hHeld ?restu42
            case hiu42 => simp only [List.getElem?_toArray, List.getElem?_cons_zero, List.getElem?_cons_succ]; rfl
            case hwu42 => rfl
            case hyu42 => (intro w9 hSw; (try dsimp only at hSw); go_simp; (try with_reducible rfl))
            case hQu42 => exact fun _ _ _ h => h
            (try simp only [Act.put, List.setIfInBounds_toArray, List.set_cons_zero, List.set_cons_succ])
            refine wpAnyH_take (i := 42) (oi := ?_) (v := ?_) ?hiu43 (by as_aux_lemma => kernel_rfl) (by as_aux_lemma => kernel_rfl) (by as_aux_lemma => kernel_rfl) ?hQu43 (Or.inl ⟨?hwu43, ?hyu43⟩) hHeld ?restu43
            case hiu43 => simp only [List.getElem?_toArray, List.getElem?_cons_zero, List.getElem?_cons_succ]; rfl
            case hwu43 => rfl
            case hyu43 => (intro w9 hSw; (try dsimp only at hSw); go_simp; (try with_reducible rfl))
            case hQu43 => exact fun _ _ _ h => h
            (try simp only [Act.put, List.setIfInBounds_toArray, List.set_cons_zero, List.set_cons_succ])
            refine wpAnyH_take (i := 44) (oi := ?_) (v := ?_) ?hiu44 (by as_aux_lemma => kernel_rfl) (by as_aux_lemma => kernel_rfl) (by as_aux_lemma => kernel_rfl) ?hQu44 (Or.inl ⟨?hwu44, ?hyu44⟩) hHeld ?restu44
            case hiu44 => simp only [List.getElem?_toArray, List.getElem?_cons_zero, List.getElem?_cons_succ]; rfl
            case hwu44 => rfl
            case hyu44 => (intro w9 hSw; (try dsimp only at hSw); go_simp; (try with_reducible rfl))
            case hQu44 => exact fun _ _ _ h => h
            (try simp only [Act.put, List.setIfInBounds_toArray, List.set_cons_zero, List.set_cons_succ])
            refine wpAnyH_take (i := 45) (oi := ?_) (v := ?_) ?hiu45 (by as_aux_lemma => kernel_rfl) (by as_aux_lemma => kernel_rfl) (by as_aux_lemma => kernel_rfl) ?hQu45 (Or.inl ⟨?hwu45, ?hyu45⟩) hHeld ?restu45
            case hiu45 => simp only [List.getElem?_toArray, List.getElem?_cons_zero, List.getElem?_cons_succ]; rfl
            case hwu45 => rfl
            case hyu45 => (intro w9 hSw; (try dsimp only at hSw); go_simp; (try with_reducible rfl))
            case hQu45 => exact fun _ _ _ h => h
            (try simp only [Act.put, List.setIfInBounds_toArray, List.set_cons_zero, List.set_cons_succ])
            refine wpAnyH_take (i := 46) (oi := ?_) (v := ?_) ?hiu46 (by as_aux_lemma => kernel_rfl) (by as_aux_lemma => kernel_rfl) (by as_aux_lemma => kernel_rfl) ?hQu46 (Or.inl ⟨?hwu46, ?hyu46⟩) hHeld ?restu46
            case hiu46 => simp only [List.getElem?_toArray, List.getElem?_cons_zero, List.getElem?_cons_succ]; rfl
            case hwu46 => rfl
            case hyu46 => (intro w9 hSw; (try dsimp only at hSw); go_simp; (try with_reducible rfl))
            case hQu46 => exact fun _ _ _ h => h
            (try simp only [Act.put, List.setIfInBounds_toArray, List.set_cons_zero, List.set_cons_succ])
            refine wpAnyH_take (i := 47) (oi := ?_) (v := ?_) ?hiu47 (by as_aux_lemma => kernel_rfl) (by as_aux_lemma => kernel_rfl) (by as_aux_lemma => kernel_rfl) ?hQu47 (Or.inl ⟨?hwu47, ?hyu47⟩) hHeld ?restu47
            case hiu47 => simp only [List.getElem?_toArray, List.getElem?_cons_zero, List.getElem?_cons_succ]; rfl
            case hwu47 => rfl
            case hyu47 => (intro w9 hSw; (try dsimp only at hSw); go_simp; (try with_reducible rfl))
            case hQu47 => exact fun _ _ _ h => h
            (try simp only [Act.put, List.setIfInBounds_toArray, List.set_cons_zero, List.set_cons_succ])
            refine wpAnyH_ready (rs := [43]) (by as_aux_lemma => kernel_rfl) (by simp) (AllReadyH.cons (o := ?_) ?hiu48 (fun K hK => ?_) AllReadyH.nil)
            case hiu48 => simp only [List.getElem?_toArray, List.getElem?_cons_zero, List.getElem?_cons_succ]; rfl
            (try rw [if_pos (by rfl)])
            go_wp2_with fail
            refine (ledIs_any e _).mono ?_
            rintro e w6 ⟨rfl, hb6⟩
            dsimp only
            refine hK.out _ _ ?_ (fun hHeld => ?_)
            · exact hS _ (bT hHeld.1 hb6)
            clear hK K
            (try simp only [Act.put, List.setIfInBounds_toArray, List.set_cons_zero, List.set_cons_succ])
            refine wpAnyH_ready (rs := [48]) (by as_aux_lemma => kernel_rfl) (by simp) (AllReadyH.cons (o := ?_) ?hiu49 (fun K hK => ?_) AllReadyH.nil)
            case hiu49 => simp only [List.getElem?_toArray, List.getElem?_cons_zero, List.getElem?_cons_succ]; rfl
            (try rw [if_pos (by rfl)])
            go_wp2_with fail
            refine (rledIs_any e _).mono ?_
            rintro e w6 ⟨rfl, hb6⟩
            dsimp only
            refine hK.out _ _ ?_ (fun hHeld => ?_)
            · exact hS _ (bT hHeld.1 hb6)
            clear hK K
            (try simp only [Act.put, List.setIfInBounds_toArray, List.set_cons_zero, List.set_cons_succ])
            refine wpAnyH_take (i := 49) (oi := ?_) (v := ?_) ?hiu50 (by as_aux_lemma => kernel_rfl) (by as_aux_lemma => kernel_rfl) (by as_aux_lemma => kernel_rfl) ?hQu50 (Or.inl ⟨?hwu50, ?hyu50⟩) hHeld ?restu50
            case hiu50 => simp only [List.getElem?_toArray, List.getElem?_cons_zero, List.getElem?_cons_succ]; rfl
            case hwu50 => rfl
            case hyu50 => (intro w9 hSw; (try dsimp only at hSw); go_simp; (try with_reducible rfl))
            case hQu50 => exact fun _ _ _ h => h
            (try simp only [Act.put, List.setIfInBounds_toArray, List.set_cons_zero, List.set_cons_succ])
            refine wpAnyH_take (i := 50) (oi := ?_) (v := ?_) ?hiu51 (by as_aux_lemma => kernel_rfl) (by as_aux_lemma => kernel_rfl) (by as_aux_lemma => kernel_rfl) ?hQu51 (Or.inl ⟨?hwu51, ?hyu51⟩) hHeld ?restu51
            case hiu51 => simp only [List.getElem?_toArray, List.getElem?_cons_zero, List.getElem?_cons_succ]; rfl
            case hwu51 => rfl
            case hyu51 => (intro w9 hSw; (try dsimp only at hSw); go_simp; (try with_reducible rfl))
            case hQu51 => exact fun _ _ _ h => h
            (try simp only [Act.put, List.setIfInBounds_toArray, List.set_cons_zero, List.set_cons_succ])
            refine wpAnyH_done (by as_aux_lemma => kernel_rfl) ?_ _
            have HX7 := Lib.hid (HX5.out.below hHeld.1 (Nat.le_refl _))
            have HM7 := Lib.hid (HM5.out.below hHeld.1 (Nat.le_refl _))
            have HB7 := Lib.hid (bT HB5.out hHeld.1)
            clear hHeld hS
            go_wp2
            go_roundw
            case rel => exact ⟨k + 1, S2, by omega, by go_num, HX7, HM7, HB7⟩
            case measure => simp [intOf]; omega
        | false =>
          rw [hbv] at hbc
          obtain ⟨S2, z, hq⟩ : ∃ S2 z, addR room S e = (S2, z) := ⟨_, _, rfl⟩
          obtain ⟨y, zz, hg⟩ : ∃ y zz, gotR S2 e.a0 = (y, zz) := ⟨_, _, rfl⟩
          have HQ := Lib.hid hq
          have HG := Lib.hid hg
          clear hq hg hbv
          as_aux_lemma =>
            go_wp2_with (first | (go_at_call 15; (with_reducible refine (ledAdd_any gx bx room S e _ HX.out).mono ?_); rw [HQ.out]; rintro r w2 ⟨rfl, hl2, hg2⟩; have HX2 := Lib.hid hl2; have HM2 := Lib.hid (HM.out.grown hg2 HN.out.1); have HB2 := Lib.hid (HB.out.trans (below_of_grown hg2 HB.out.size HN.out.2.2.1)); clear HX HM hl2 hg2 x0 x1 x2 x3 x4 x5 x6 x7 x8 x9 x10 x11 x12 x13; obtain ⟨ad2, hA2, ha⟩ := (HA.out.below HB2.out (Nat.le_refl _)).at_ hlt; rw [HE.out] at ha; obtain rfl := Option.some.inj hA2; obtain ⟨x0, x1, x2, x3, x4, x5, x6, x7, x8, x9, x10, x11, x12, x13⟩ := ha.cells; clear ha) | (go_at_call 16; (with_reducible refine (rledAdd_any gm room S e _ HM2.out).mono ?_); rw [HQ.out]; rintro r w3 ⟨rfl, hm3, hb3⟩; have HM3 := Lib.hid hm3; have HX3 := Lib.hid (HX2.out.keep (hb3.block gx HN.out.2.1) (hb3.block bx HN.out.1)); have HB3 := Lib.hid (HB2.out.trans (hb3.mono HN.out.2.2.2)); clear HX2 HM2 hm3 hb3 x0 x1 x2 x3 x4 x5 x6 x7 x8 x9 x10 x11 x12 x13; obtain ⟨ad2, hA2, ha⟩ := (HA.out.below HB3.out (Nat.le_refl _)).at_ hlt; rw [HE.out] at ha; obtain rfl := Option.some.inj hA2; obtain ⟨x0, x1, x2, x3, x4, x5, x6, x7, x8, x9, x10, x11, x12, x13⟩ := ha.cells; clear ha) | (go_at_call 17; (with_reducible refine (ledGet_any gx bx room e.a0 S2 _ HX3.out HWF.out y zz HG.out).mono ?_); rintro r w4 ⟨rfl, hb4⟩; have hb5 : Below w3.heap.size w3 (w4.alloc (.cells #[.int .i64 y.a0, .int .i64 y.a1, .int .i64 y.a2, .int .i64 y.a3, .int .i64 y.a4, .int .i64 y.a5, .int .i64 y.a6, .int .i64 y.a7, .int .i64 y.a8, .int .i64 y.a9, .int .i64 y.a10, .int .i64 y.l, .int .i64 y.i, .bool y.bk] 37)) := bA hb4 _; have HX4 := Lib.hid (HX3.out.below hb5 (Nat.le_refl _)); have HM4 := Lib.hid (HM3.out.below hb5 (Nat.le_refl _)); have HB4 := Lib.hid (bT HB3.out hb5); have HY4 := Lib.hid (heap_alloc_new w4 (.cells #[.int .i64 y.a0, .int .i64 y.a1, .int .i64 y.a2, .int .i64 y.a3, .int .i64 y.a4, .int .i64 y.a5, .int .i64 y.a6, .int .i64 y.a7, .int .i64 y.a8, .int .i64 y.a9, .int .i64 y.a10, .int .i64 y.l, .int .i64 y.i, .bool y.bk] 37)); clear HX3 HM3 hb4 hb5 x0 x1 x2 x3 x4 x5 x6 x7 x8 x9 x10 x11 x12 x13; obtain ⟨ad2, hA2, ha⟩ := (HA.out.below HB4.out (Nat.le_refl _)).at_ hlt; rw [HE.out] at ha; obtain rfl := Option.some.inj hA2; obtain ⟨x0, x1, x2, x3, x4, x5, x6, x7, x8, x9, x10, x11, x12, x13⟩ := ha.cells; clear ha) | (go_at_call 18; (with_reducible refine (rledGet_any gm room e.a0 S2 _ HM4.out y zz HG.out).mono ?_); rintro r w5 ⟨rfl, hb5⟩; have hb6 : Below (w4.alloc (.cells #[.int .i64 y.a0, .int .i64 y.a1, .int .i64 y.a2, .int .i64 y.a3, .int .i64 y.a4, .int .i64 y.a5, .int .i64 y.a6, .int .i64 y.a7, .int .i64 y.a8, .int .i64 y.a9, .int .i64 y.a10, .int .i64 y.l, .int .i64 y.i, .bool y.bk] 37)).heap.size (w4.alloc (.cells #[.int .i64 y.a0, .int .i64 y.a1, .int .i64 y.a2, .int .i64 y.a3, .int .i64 y.a4, .int .i64 y.a5, .int .i64 y.a6, .int .i64 y.a7, .int .i64 y.a8, .int .i64 y.a9, .int .i64 y.a10, .int .i64 y.l, .int .i64 y.i, .bool y.bk] 37)) (w5.alloc (.cells #[.int .i64 y.a0, .int .i64 y.a1, .int .i64 y.a2, .int .i64 y.a3, .int .i64 y.a4, .int .i64 y.a5, .int .i64 y.a6, .int .i64 y.a7, .int .i64 y.a8, .int .i64 y.a9, .int .i64 y.a10, .int .i64 y.l, .int .i64 y.i, .bool y.bk] 37)) := bA hb5 _; have HX5 := Lib.hid (HX4.out.below hb6 (Nat.le_refl _)); have HM5 := Lib.hid (HM4.out.below hb6 (Nat.le_refl _)); have HB5 := Lib.hid (bT HB4.out hb6); have HY5 := Lib.hid ((hb6.block _ (Array.getElem?_eq_some_iff.1 HY4.out).1).trans HY4.out); have HZ5 := Lib.hid (heap_alloc_new w5 (.cells #[.int .i64 y.a0, .int .i64 y.a1, .int .i64 y.a2, .int .i64 y.a3, .int .i64 y.a4, .int .i64 y.a5, .int .i64 y.a6, .int .i64 y.a7, .int .i64 y.a8, .int .i64 y.a9, .int .i64 y.a10, .int .i64 y.l, .int .i64 y.i, .bool y.bk] 37)); clear HX4 HM4 HY4 hb5 hb6 x0 x1 x2 x3 x4 x5 x6 x7 x8 x9 x10 x11 x12 x13))
            obtain ⟨W0, hW0⟩ : ∃ W0, (w5.alloc (.cells #[.int .i64 y.a0, .int .i64 y.a1, .int .i64 y.a2, .int .i64 y.a3, .int .i64 y.a4, .int .i64 y.a5, .int .i64 y.a6, .int .i64 y.a7, .int .i64 y.a8, .int .i64 y.a9, .int .i64 y.a10, .int .i64 y.l, .int .i64 y.i, .bool y.bk] 37)) = W0 := ⟨_, rfl⟩
            rw [hW0] at HX5 HM5 HB5 HY5 HZ5
            rw [hW0]
            clear hW0
            obtain ⟨ad2, hA2, ha⟩ := (HA.out.below HB5.out (Nat.le_refl _)).at_ hlt
            rw [HE.out] at ha
            obtain rfl := Option.some.inj hA2
            have HE5 := Lib.hid ha
            obtain ⟨A2, c2, m1, m2, m3, m4, m5, m6, m7⟩ := HM5.out
            have HMB := Lib.hid m1
            clear ha m1 m2 m3 m4 m5 m6 m7
            have hS := fun w9 (h : Below W0.heap.size W0 w9) => ld_s HY5 HZ5 HE5 HMB h
            refine wp_region_held_drew (S := fun w9 => Below W0.heap.size W0 w9 ∧ w9.cell? ⟨w4.heap.size, 0, none⟩ = some (.int .i64 y.a0) ∧ w9.cell? ⟨w4.heap.size, 1, none⟩ = some (.int .i64 y.a1) ∧ w9.cell? ⟨w4.heap.size, 2, none⟩ = some (.int .i64 y.a2) ∧ w9.cell? ⟨w4.heap.size, 3, none⟩ = some (.int .i64 y.a3) ∧ w9.cell? ⟨w4.heap.size, 4, none⟩ = some (.int .i64 y.a4) ∧ w9.cell? ⟨w4.heap.size, 5, none⟩ = some (.int .i64 y.a5) ∧ w9.cell? ⟨w4.heap.size, 6, none⟩ = some (.int .i64 y.a6) ∧ w9.cell? ⟨w4.heap.size, 7, none⟩ = some (.int .i64 y.a7) ∧ w9.cell? ⟨w4.heap.size, 8, none⟩ = some (.int .i64 y.a8) ∧ w9.cell? ⟨w4.heap.size, 9, none⟩ = some (.int .i64 y.a9) ∧ w9.cell? ⟨w4.heap.size, 10, none⟩ = some (.int .i64 y.a10) ∧ w9.cell? ⟨w4.heap.size, 11, none⟩ = some (.int .i64 y.l) ∧ w9.cell? ⟨w4.heap.size, 12, none⟩ = some (.int .i64 y.i) ∧ w9.cell? ⟨w4.heap.size, 13, none⟩ = some (.bool y.bk) ∧ w9.cell? ⟨w5.heap.size, 0, none⟩ = some (.int .i64 y.a0) ∧ w9.cell? ⟨w5.heap.size, 1, none⟩ = some (.int .i64 y.a1) ∧ w9.cell? ⟨w5.heap.size, 2, none⟩ = some (.int .i64 y.a2) ∧ w9.cell? ⟨w5.heap.size, 3, none⟩ = some (.int .i64 y.a3) ∧ w9.cell? ⟨w5.heap.size, 4, none⟩ = some (.int .i64 y.a4) ∧ w9.cell? ⟨w5.heap.size, 5, none⟩ = some (.int .i64 y.a5) ∧ w9.cell? ⟨w5.heap.size, 6, none⟩ = some (.int .i64 y.a6) ∧ w9.cell? ⟨w5.heap.size, 7, none⟩ = some (.int .i64 y.a7) ∧ w9.cell? ⟨w5.heap.size, 8, none⟩ = some (.int .i64 y.a8) ∧ w9.cell? ⟨w5.heap.size, 9, none⟩ = some (.int .i64 y.a9) ∧ w9.cell? ⟨w5.heap.size, 10, none⟩ = some (.int .i64 y.a10) ∧ w9.cell? ⟨w5.heap.size, 11, none⟩ = some (.int .i64 y.l) ∧ w9.cell? ⟨w5.heap.size, 12, none⟩ = some (.int .i64 y.i) ∧ w9.cell? ⟨w5.heap.size, 13, none⟩ = some (.bool y.bk) ∧ w9.cell? (ad.add (k * 14)) = some (.int .i64 e.a0) ∧ w9.cell? ⟨((ad.add (k * 14))).block, ((ad.add (k * 14))).off + 1, none⟩ = some (.int .i64 e.a1) ∧ w9.cell? ⟨((ad.add (k * 14))).block, ((ad.add (k * 14))).off + 2, none⟩ = some (.int .i64 e.a2) ∧ w9.cell? ⟨((ad.add (k * 14))).block, ((ad.add (k * 14))).off + 3, none⟩ = some (.int .i64 e.a3) ∧ w9.cell? ⟨((ad.add (k * 14))).block, ((ad.add (k * 14))).off + 4, none⟩ = some (.int .i64 e.a4) ∧ w9.cell? ⟨((ad.add (k * 14))).block, ((ad.add (k * 14))).off + 5, none⟩ = some (.int .i64 e.a5) ∧ w9.cell? ⟨((ad.add (k * 14))).block, ((ad.add (k * 14))).off + 6, none⟩ = some (.int .i64 e.a6) ∧ w9.cell? ⟨((ad.add (k * 14))).block, ((ad.add (k * 14))).off + 7, none⟩ = some (.int .i64 e.a7) ∧ w9.cell? ⟨((ad.add (k * 14))).block, ((ad.add (k * 14))).off + 8, none⟩ = some (.int .i64 e.a8) ∧ w9.cell? ⟨((ad.add (k * 14))).block, ((ad.add (k * 14))).off + 9, none⟩ = some (.int .i64 e.a9) ∧ w9.cell? ⟨((ad.add (k * 14))).block, ((ad.add (k * 14))).off + 10, none⟩ = some (.int .i64 e.a10) ∧ w9.cell? ⟨((ad.add (k * 14))).block, ((ad.add (k * 14))).off + 11, none⟩ = some (.int .i64 e.l) ∧ w9.cell? ⟨((ad.add (k * 14))).block, ((ad.add (k * 14))).off + 12, none⟩ = some (.int .i64 e.i) ∧ w9.cell? ⟨((ad.add (k * 14))).block, ((ad.add (k * 14))).off + 13, none⟩ = some (.bool e.bk) ∧ w9.cell? ⟨gm, 0, none⟩ = some (.int .i64 room) ∧ w9.cell? ⟨gm, 1, none⟩ = some (.slice A2 S2.length c2)) (by kernel_rfl) (hS _ (bD (bR W0))) (fun hHeld => ?_)
            refine wpAnyH_take (i := 0) (oi := ?_) (v := ?_) ?hiu52 (by as_aux_lemma => kernel_rfl) (by as_aux_lemma => kernel_rfl) (by as_aux_lemma => kernel_rfl) ?hQu52 (Or.inl ⟨?hwu52, ?hyu52⟩) hHeld ?restu52
            case hiu52 => simp only [List.getElem?_toArray, List.getElem?_cons_zero, List.getElem?_cons_succ]; rfl
            case hwu52 => rfl
            case hyu52 => (intro w9 hSw; (try dsimp only at hSw); go_simp; (try with_reducible rfl))
            case hQu52 => exact fun _ _ _ h => h
            (try simp only [Act.put, List.setIfInBounds_toArray, List.set_cons_zero, List.set_cons_succ])
            refine wpAnyH_take (i := 1) (oi := ?_) (v := ?_) ?hiu53 (by as_aux_lemma => kernel_rfl) (by as_aux_lemma => kernel_rfl) (by as_aux_lemma => kernel_rfl) ?hQu53 (Or.inl ⟨?hwu53, ?hyu53⟩) hHeld ?restu53
            case hiu53 => simp only [List.getElem?_toArray, List.getElem?_cons_zero, List.getElem?_cons_succ]; rfl
            case hwu53 => rfl
            case hyu53 => (intro w9 hSw; (try dsimp only at hSw); go_simp; (try with_reducible rfl))
            case hQu53 => exact fun _ _ _ h => h
            (try simp only [Act.put, List.setIfInBounds_toArray, List.set_cons_zero, List.set_cons_succ])
            refine wpAnyH_take (i := 2) (oi := ?_) (v := ?_) ?hiu54 (by as_aux_lemma => kernel_rfl) (by as_aux_lemma => kernel_rfl) (by as_aux_lemma => kernel_rfl) ?hQu54 (Or.inl ⟨?hwu54, ?hyu54⟩) hHeld ?restu54
            case hiu54 => simp only [List.getElem?_toArray, List.getElem?_cons_zero, List.getElem?_cons_succ]; rfl
            case hwu54 => rfl
            case hyu54 => (intro w9 hSw; (try dsimp only at hSw); go_simp; (try with_reducible rfl))
            case hQu54 => exact fun _ _ _ h => h
            (try simp only [Act.put, List.setIfInBounds_toArray, List.set_cons_zero, List.set_cons_succ])
            refine wpAnyH_take (i := 3) (oi := ?_) (v := ?_) ?hiu55 (by as_aux_lemma => kernel_rfl) (by as_aux_lemma => kernel_rfl) (by as_aux_lemma => kernel_rfl) ?hQu55 (Or.inl ⟨?hwu55, ?hyu55⟩) hHeld ?restu55
            case hiu55 => simp only [List.getElem?_toArray, List.getElem?_cons_zero, List.getElem?_cons_succ]; rfl
            case hwu55 => rfl
            case hyu55 => (intro w9 hSw; (try dsimp only at hSw); go_simp; (try with_reducible rfl))
            case hQu55 => exact fun _ _ _ h => h
            (try simp only [Act.put, List.setIfInBounds_toArray, List.set_cons_zero, List.set_cons_succ])
            refine wpAnyH_take (i := 4) (oi := ?_) (v := ?_) ?hiu56 (by as_aux_lemma => kernel_rfl) (by as_aux_lemma => kernel_rfl) (by as_aux_lemma => kernel_rfl) ?hQu56 (Or.inl ⟨?hwu56, ?hyu56⟩) hHeld ?restu56
            case hiu56 => simp only [List.getElem?_toArray, List.getElem?_cons_zero, List.getElem?_cons_succ]; rfl
            case hwu56 => rfl
            case hyu56 => (intro w9 hSw; (try dsimp only at hSw); go_simp; (try with_reducible rfl))
            case hQu56 => exact fun _ _ _ h => h
            (try simp only [Act.put, List.setIfInBounds_toArray, List.set_cons_zero, List.set_cons_succ])
            refine wpAnyH_take (i := 5) (oi := ?_) (v := ?_) ?hiu57 (by as_aux_lemma => kernel_rfl) (by as_aux_lemma => kernel_rfl) (by as_aux_lemma => kernel_rfl) ?hQu57 (Or.inl ⟨?hwu57, ?hyu57⟩) hHeld ?restu57
            case hiu57 => simp only [List.getElem?_toArray, List.getElem?_cons_zero, List.getElem?_cons_succ]; rfl
            case hwu57 => rfl
            case hyu57 => (intro w9 hSw; (try dsimp only at hSw); go_simp; (try with_reducible rfl))
            case hQu57 => exact fun _ _ _ h => h
            (try simp only [Act.put, List.setIfInBounds_toArray, List.set_cons_zero, List.set_cons_succ])
            refine wpAnyH_take (i := 6) (oi := ?_) (v := ?_) ?hiu58 (by as_aux_lemma => kernel_rfl) (by as_aux_lemma => kernel_rfl) (by as_aux_lemma => kernel_rfl) ?hQu58 (Or.inl ⟨?hwu58, ?hyu58⟩) hHeld ?restu58
            case hiu58 => simp only [List.getElem?_toArray, List.getElem?_cons_zero, List.getElem?_cons_succ]; rfl
            case hwu58 => rfl
            case hyu58 => (intro w9 hSw; (try dsimp only at hSw); go_simp; (try with_reducible rfl))
            case hQu58 => exact fun _ _ _ h => h
            (try simp only [Act.put, List.setIfInBounds_toArray, List.set_cons_zero, List.set_cons_succ])
            refine wpAnyH_take (i := 7) (oi := ?_) (v := ?_) ?hiu59 (by as_aux_lemma => kernel_rfl) (by as_aux_lemma => kernel_rfl) (by as_aux_lemma => kernel_rfl) ?hQu59 (Or.inl ⟨?hwu59, ?hyu59⟩) hHeld ?restu59
            case hiu59 => simp only [List.getElem?_toArray, List.getElem?_cons_zero, List.getElem?_cons_succ]; rfl
            case hwu59 => rfl
            case hyu59 => (intro w9 hSw; (try dsimp only at hSw); go_simp; (try with_reducible rfl))
            case hQu59 => exact fun _ _ _ h => h
            (try simp only [Act.put, List.setIfInBounds_toArray, List.set_cons_zero, List.set_cons_succ])
            refine wpAnyH_take (i := 8) (oi := ?_) (v := ?_) ?hiu60 (by as_aux_lemma => kernel_rfl) (by as_aux_lemma => kernel_rfl) (by as_aux_lemma => kernel_rfl) ?hQu60 (Or.inl ⟨?hwu60, ?hyu60⟩) hHeld ?restu60
            case hiu60 => simp only [List.getElem?_toArray, List.getElem?_cons_zero, List.getElem?_cons_succ]; rfl
            case hwu60 => rfl
            case hyu60 => (intro w9 hSw; (try dsimp only at hSw); go_simp; (try with_reducible rfl))
            case hQu60 => exact fun _ _ _ h => h
            (try simp only [Act.put, List.setIfInBounds_toArray, List.set_cons_zero, List.set_cons_succ])
            refine wpAnyH_take (i := 9) (oi := ?_) (v := ?_) ?hiu61 (by as_aux_lemma => kernel_rfl) (by as_aux_lemma => kernel_rfl) (by as_aux_lemma => kernel_rfl) ?hQu61 (Or.inl ⟨?hwu61, ?hyu61⟩) hHeld ?restu61
            case hiu61 => simp only [List.getElem?_toArray, List.getElem?_cons_zero, List.getElem?_cons_succ]; rfl
            case hwu61 => rfl
            case hyu61 => (intro w9 hSw; (try dsimp only at hSw); go_simp; (try with_reducible rfl))
            case hQu61 => exact fun _ _ _ h => h
            (try simp only [Act.put, List.setIfInBounds_toArray, List.set_cons_zero, List.set_cons_succ])
            refine wpAnyH_take (i := 10) (oi := ?_) (v := ?_) ?hiu62 (by as_aux_lemma => kernel_rfl) (by as_aux_lemma => kernel_rfl) (by as_aux_lemma => kernel_rfl) ?hQu62 (Or.inl ⟨?hwu62, ?hyu62⟩) hHeld ?restu62
            case hiu62 => simp only [List.getElem?_toArray, List.getElem?_cons_zero, List.getElem?_cons_succ]; rfl
            case hwu62 => rfl
            case hyu62 => (intro w9 hSw; (try dsimp only at hSw); go_simp; (try with_reducible rfl))
            case hQu62 => exact fun _ _ _ h => h
            (try simp only [Act.put, List.setIfInBounds_toArray, List.set_cons_zero, List.set_cons_succ])
            refine wpAnyH_take (i := 11) (oi := ?_) (v := ?_) ?hiu63 (by as_aux_lemma => kernel_rfl) (by as_aux_lemma => kernel_rfl) (by as_aux_lemma => kernel_rfl) ?hQu63 (Or.inl ⟨?hwu63, ?hyu63⟩) hHeld ?restu63
            case hiu63 => simp only [List.getElem?_toArray, List.getElem?_cons_zero, List.getElem?_cons_succ]; rfl
            case hwu63 => rfl
            case hyu63 => (intro w9 hSw; (try dsimp only at hSw); go_simp; (try with_reducible rfl))
            case hQu63 => exact fun _ _ _ h => h
            (try simp only [Act.put, List.setIfInBounds_toArray, List.set_cons_zero, List.set_cons_succ])
            refine wpAnyH_take (i := 12) (oi := ?_) (v := ?_) ?hiu64 (by as_aux_lemma => kernel_rfl) (by as_aux_lemma => kernel_rfl) (by as_aux_lemma => kernel_rfl) ?hQu64 (Or.inl ⟨?hwu64, ?hyu64⟩) hHeld ?restu64
            case hiu64 => simp only [List.getElem?_toArray, List.getElem?_cons_zero, List.getElem?_cons_succ]; rfl
            case hwu64 => rfl
            case hyu64 => (intro w9 hSw; (try dsimp only at hSw); go_simp; (try with_reducible rfl))
            case hQu64 => exact fun _ _ _ h => h
            (try simp only [Act.put, List.setIfInBounds_toArray, List.set_cons_zero, List.set_cons_succ])
            refine wpAnyH_take (i := 13) (oi := ?_) (v := ?_) ?hiu65 (by as_aux_lemma => kernel_rfl) (by as_aux_lemma => kernel_rfl) (by as_aux_lemma => kernel_rfl) ?hQu65 (Or.inl ⟨?hwu65, ?hyu65⟩) hHeld ?restu65
            case hiu65 => simp only [List.getElem?_toArray, List.getElem?_cons_zero, List.getElem?_cons_succ]; rfl
            case hwu65 => rfl
            case hyu65 => (intro w9 hSw; (try dsimp only at hSw); go_simp; (try with_reducible rfl))
            case hQu65 => exact fun _ _ _ h => h
            (try simp only [Act.put, List.setIfInBounds_toArray, List.set_cons_zero, List.set_cons_succ])
            refine wpAnyH_take (i := 14) (oi := ?_) (v := ?_) ?hiu66 (by as_aux_lemma => kernel_rfl) (by as_aux_lemma => kernel_rfl) (by as_aux_lemma => kernel_rfl) ?hQu66 (Or.inl ⟨?hwu66, ?hyu66⟩) hHeld ?restu66
            case hiu66 => simp only [List.getElem?_toArray, List.getElem?_cons_zero, List.getElem?_cons_succ]; rfl
            case hwu66 => rfl
            case hyu66 => (intro w9 hSw; (try dsimp only at hSw); go_simp; (try with_reducible rfl))
            case hQu66 => exact fun _ _ _ h => h
            (try simp only [Act.put, List.setIfInBounds_toArray, List.set_cons_zero, List.set_cons_succ])
            refine wpAnyH_take (i := 16) (oi := ?_) (v := ?_) ?hiu67 (by as_aux_lemma => kernel_rfl) (by as_aux_lemma => kernel_rfl) (by as_aux_lemma => kernel_rfl) ?hQu67 (Or.inl ⟨?hwu67, ?hyu67⟩) hHeld ?restu67
            case hiu67 => simp only [List.getElem?_toArray, List.getElem?_cons_zero, List.getElem?_cons_succ]; rfl
            case hwu67 => rfl
            case hyu67 => (intro w9 hSw; (try dsimp only at hSw); go_simp; (try with_reducible rfl))
            case hQu67 => exact fun _ _ _ h => h
            (try simp only [Act.put, List.setIfInBounds_toArray, List.set_cons_zero, List.set_cons_succ])
            refine wpAnyH_take (i := 17) (oi := ?_) (v := ?_) ?hiu68 (by as_aux_lemma => kernel_rfl) (by as_aux_lemma => kernel_rfl) (by as_aux_lemma => kernel_rfl) ?hQu68 (Or.inl ⟨?hwu68, ?hyu68⟩) hHeld ?restu68
            case hiu68 => simp only [List.getElem?_toArray, List.getElem?_cons_zero, List.getElem?_cons_succ]; rfl
            case hwu68 => rfl
            case hyu68 => (intro w9 hSw; (try dsimp only at hSw); go_simp; (try with_reducible rfl))
            case hQu68 => exact fun _ _ _ h => h
            (try simp only [Act.put, List.setIfInBounds_toArray, List.set_cons_zero, List.set_cons_succ])
            refine wpAnyH_take (i := 18) (oi := ?_) (v := ?_) ?hiu69 (by as_aux_lemma => kernel_rfl) (by as_aux_lemma => kernel_rfl) (by as_aux_lemma => kernel_rfl) ?hQu69 (Or.inl ⟨?hwu69, ?hyu69⟩) hHeld ?restu69
            case hiu69 => simp only [List.getElem?_toArray, List.getElem?_cons_zero, List.getElem?_cons_succ]; rfl
            case hwu69 => rfl
            case hyu69 => (intro w9 hSw; (try dsimp only at hSw); go_simp; (try with_reducible rfl))
            case hQu69 => exact fun _ _ _ h => h
            (try simp only [Act.put, List.setIfInBounds_toArray, List.set_cons_zero, List.set_cons_succ])
            refine wpAnyH_take (i := 19) (oi := ?_) (v := ?_) ?hiu70 (by as_aux_lemma => kernel_rfl) (by as_aux_lemma => kernel_rfl) (by as_aux_lemma => kernel_rfl) ?hQu70 (Or.inl ⟨?hwu70, ?hyu70⟩) hHeld ?restu70
            case hiu70 => simp only [List.getElem?_toArray, List.getElem?_cons_zero, List.getElem?_cons_succ]; rfl
            case hwu70 => rfl
            case hyu70 => (intro w9 hSw; (try dsimp only at hSw); go_simp; (try with_reducible rfl))
            case hQu70 => exact fun _ _ _ h => h
            (try simp only [Act.put, List.setIfInBounds_toArray, List.set_cons_zero, List.set_cons_succ])
            refine wpAnyH_take (i := 20) (oi := ?_) (v := ?_) ?hiu71 (by as_aux_lemma => kernel_rfl) (by as_aux_lemma => kernel_rfl) (by as_aux_lemma => kernel_rfl) ?hQu71 (Or.inl ⟨?hwu71, ?hyu71⟩) hHeld ?restu71
            case hiu71 => simp only [List.getElem?_toArray, List.getElem?_cons_zero, List.getElem?_cons_succ]; rfl
            case hwu71 => rfl
            case hyu71 => (intro w9 hSw; (try dsimp only at hSw); go_simp; (try with_reducible rfl))
            case hQu71 => exact fun _ _ _ h => h
            (try simp only [Act.put, List.setIfInBounds_toArray, List.set_cons_zero, List.set_cons_succ])
            refine wpAnyH_ready (rs := [15]) (by as_aux_lemma => kernel_rfl) (by simp) (AllReadyH.cons (o := ?_) ?hiu72 (fun K hK => ?_) AllReadyH.nil)
            case hiu72 => simp only [List.getElem?_toArray, List.getElem?_cons_zero, List.getElem?_cons_succ]; rfl
            (try rw [if_pos (by rfl)])
            go_wp2_with fail
            refine (ledLen_any gx bx room S2 _ (HX5.out.below hHeld.1 (Nat.le_refl _))).mono ?_
            rintro e w6 ⟨rfl, hb6⟩
            dsimp only
            refine hK.out _ _ ?_ (fun hHeld => ?_)
            · exact hS _ (bT hHeld.1 hb6)
            clear hK K
            (try simp only [Act.put, List.setIfInBounds_toArray, List.set_cons_zero, List.set_cons_succ])
            refine wpAnyH_take (i := 21) (oi := ?_) (v := ?_) ?hiu73 (by as_aux_lemma => kernel_rfl) (by as_aux_lemma => kernel_rfl) (by as_aux_lemma => kernel_rfl) ?hQu73 (Or.inl ⟨?hwu73, ?hyu73⟩) hHeld ?restu73
            case hiu73 => simp only [List.getElem?_toArray, List.getElem?_cons_zero, List.getElem?_cons_succ]; rfl
            case hwu73 => rfl
            case hyu73 => (intro w9 hSw; (try dsimp only at hSw); go_simp; (try with_reducible rfl))
            case hQu73 => exact fun _ _ _ h => h
            (try simp only [Act.put, List.setIfInBounds_toArray, List.set_cons_zero, List.set_cons_succ])
            refine wpAnyH_take (i := 22) (oi := ?_) (v := ?_) ?hiu74 (by as_aux_lemma => kernel_rfl) (by as_aux_lemma => kernel_rfl) (by as_aux_lemma => kernel_rfl) ?hQu74 (Or.inl ⟨?hwu74, ?hyu74⟩) hHeld ?restu74
            case hiu74 => simp only [List.getElem?_toArray, List.getElem?_cons_zero, List.getElem?_cons_succ]; rfl
            case hwu74 => rfl
            case hyu74 => (intro w9 hSw; (try dsimp only at hSw); go_simp; (try with_reducible rfl))
            case hQu74 => exact fun _ _ _ h => h
            (try simp only [Act.put, List.setIfInBounds_toArray, List.set_cons_zero, List.set_cons_succ])
            refine wpAnyH_take (i := 23) (oi := ?_) (v := ?_) ?hiu75 (by as_aux_lemma => kernel_rfl) (by as_aux_lemma => kernel_rfl) (by as_aux_lemma => kernel_rfl) ?hQu75 (Or.inl ⟨?hwu75, ?hyu75⟩) hHeld ?restu75
            case hiu75 => simp only [List.getElem?_toArray, List.getElem?_cons_zero, List.getElem?_cons_succ]; rfl
            case hwu75 => rfl
            case hyu75 => (intro w9 hSw; (try dsimp only at hSw); go_simp; (try with_reducible rfl))
            case hQu75 => exact fun _ _ _ h => h
            (try simp only [Act.put, List.setIfInBounds_toArray, List.set_cons_zero, List.set_cons_succ])
            refine wpAnyH_take (i := 24) (oi := ?_) (v := ?_) ?hiu76 (by as_aux_lemma => kernel_rfl) (by as_aux_lemma => kernel_rfl) (by as_aux_lemma => kernel_rfl) ?hQu76 (Or.inl ⟨?hwu76, ?hyu76⟩) hHeld ?restu76
            case hiu76 => simp only [List.getElem?_toArray, List.getElem?_cons_zero, List.getElem?_cons_succ]; rfl
            case hwu76 => rfl
            case hyu76 => (intro w9 hSw; (try dsimp only at hSw); go_simp; (try with_reducible rfl))
            case hQu76 => exact fun _ _ _ h => h
            (try simp only [Act.put, List.setIfInBounds_toArray, List.set_cons_zero, List.set_cons_succ])
            refine wpAnyH_take (i := 26) (oi := ?_) (v := ?_) ?hiu77 (by as_aux_lemma => kernel_rfl) (by as_aux_lemma => kernel_rfl) (by as_aux_lemma => kernel_rfl) ?hQu77 (Or.inl ⟨?hwu77, ?hyu77⟩) hHeld ?restu77
            case hiu77 => simp only [List.getElem?_toArray, List.getElem?_cons_zero, List.getElem?_cons_succ]; rfl
            case hwu77 => rfl
            case hyu77 => (intro w9 hSw; (try dsimp only at hSw); go_simp; (try with_reducible rfl))
            case hQu77 => exact fun _ _ _ h => h
            (try simp only [Act.put, List.setIfInBounds_toArray, List.set_cons_zero, List.set_cons_succ])
            refine wpAnyH_take (i := 27) (oi := ?_) (v := ?_) ?hiu78 (by as_aux_lemma => kernel_rfl) (by as_aux_lemma => kernel_rfl) (by as_aux_lemma => kernel_rfl) ?hQu78 (Or.inl ⟨?hwu78, ?hyu78⟩) hHeld ?restu78
            case hiu78 => simp only [List.getElem?_toArray, List.getElem?_cons_zero, List.getElem?_cons_succ]; rfl
            case hwu78 => rfl
            case hyu78 => (intro w9 hSw; (try dsimp only at hSw); go_simp; (try with_reducible rfl))
            case hQu78 => exact fun _ _ _ h => h
            (try simp only [Act.put, List.setIfInBounds_toArray, List.set_cons_zero, List.set_cons_succ])
            refine wpAnyH_take (i := 28) (oi := ?_) (v := ?_) ?hiu79 (by as_aux_lemma => kernel_rfl) (by as_aux_lemma => kernel_rfl) (by as_aux_lemma => kernel_rfl) ?hQu79 (Or.inl ⟨?hwu79, ?hyu79⟩) hHeld ?restu79
            case hiu79 => simp only [List.getElem?_toArray, List.getElem?_cons_zero, List.getElem?_cons_succ]; rfl
            case hwu79 => rfl
            case hyu79 => (intro w9 hSw; (try dsimp only at hSw); go_simp; (try with_reducible rfl))
            case hQu79 => exact fun _ _ _ h => h
            (try simp only [Act.put, List.setIfInBounds_toArray, List.set_cons_zero, List.set_cons_succ])
            refine wpAnyH_take (i := 29) (oi := ?_) (v := ?_) ?hiu80 (by as_aux_lemma => kernel_rfl) (by as_aux_lemma => kernel_rfl) (by as_aux_lemma => kernel_rfl) ?hQu80 (Or.inl ⟨?hwu80, ?hyu80⟩) hHeld ?restu80
            case hiu80 => simp only [List.getElem?_toArray, List.getElem?_cons_zero, List.getElem?_cons_succ]; rfl
            case hwu80 => rfl
            case hyu80 => (intro w9 hSw; (try dsimp only at hSw); go_simp; (try with_reducible rfl))
            case hQu80 => exact fun _ _ _ h => h
            (try simp only [Act.put, List.setIfInBounds_toArray, List.set_cons_zero, List.set_cons_succ])
            refine wpAnyH_take (i := 30) (oi := ?_) (v := ?_) ?hiu81 (by as_aux_lemma => kernel_rfl) (by as_aux_lemma => kernel_rfl) (by as_aux_lemma => kernel_rfl) ?hQu81 (Or.inl ⟨?hwu81, ?hyu81⟩) hHeld ?restu81
            case hiu81 => simp only [List.getElem?_toArray, List.getElem?_cons_zero, List.getElem?_cons_succ]; rfl
            case hwu81 => rfl
            case hyu81 => (intro w9 hSw; (try dsimp only at hSw); go_simp; (try with_reducible rfl))
            case hQu81 => exact fun _ _ _ h => h
            (try simp only [Act.put, List.setIfInBounds_toArray, List.set_cons_zero, List.set_cons_succ])
            refine wpAnyH_take (i := 31) (oi := ?_) (v := ?_) ?hiu82 (by as_aux_lemma => kernel_rfl) (by as_aux_lemma => kernel_rfl) (by as_aux_lemma => kernel_rfl) ?hQu82 (Or.inl ⟨?hwu82, ?hyu82⟩) hHeld ?restu82
            case hiu82 => simp only [List.getElem?_toArray, List.getElem?_cons_zero, List.getElem?_cons_succ]; rfl
            case hwu82 => rfl
            case hyu82 => (intro w9 hSw; (try dsimp only at hSw); go_simp; (try with_reducible rfl))
            case hQu82 => exact fun _ _ _ h => h
            (try simp only [Act.put, List.setIfInBounds_toArray, List.set_cons_zero, List.set_cons_succ])
            refine wpAnyH_take (i := 32) (oi := ?_) (v := ?_) ?hiu83 (by as_aux_lemma => kernel_rfl) (by as_aux_lemma => kernel_rfl) (by as_aux_lemma => kernel_rfl) ?hQu83 (Or.inl ⟨?hwu83, ?hyu83⟩) hHeld ?restu83
            case hiu83 => simp only [List.getElem?_toArray, List.getElem?_cons_zero, List.getElem?_cons_succ]; rfl
            case hwu83 => rfl
            case hyu83 => (intro w9 hSw; (try dsimp only at hSw); go_simp; (try with_reducible rfl))
            case hQu83 => exact fun _ _ _ h => h
            (try simp only [Act.put, List.setIfInBounds_toArray, List.set_cons_zero, List.set_cons_succ])
            refine wpAnyH_take (i := 33) (oi := ?_) (v := ?_) ?hiu84 (by as_aux_lemma => kernel_rfl) (by as_aux_lemma => kernel_rfl) (by as_aux_lemma => kernel_rfl) ?hQu84 (Or.inl ⟨?hwu84, ?hyu84⟩) hHeld ?restu84
            case hiu84 => simp only [List.getElem?_toArray, List.getElem?_cons_zero, List.getElem?_cons_succ]; rfl
            case hwu84 => rfl
            case hyu84 => (intro w9 hSw; (try dsimp only at hSw); go_simp; (try with_reducible rfl))
            case hQu84 => exact fun _ _ _ h => h
            (try simp only [Act.put, List.setIfInBounds_toArray, List.set_cons_zero, List.set_cons_succ])
            refine wpAnyH_take (i := 34) (oi := ?_) (v := ?_) ?hiu85 (by as_aux_lemma => kernel_rfl) (by as_aux_lemma => kernel_rfl) (by as_aux_lemma => kernel_rfl) ?hQu85 (Or.inl ⟨?hwu85, ?hyu85⟩) hHeld ?restu85
            case hiu85 => simp only [List.getElem?_toArray, List.getElem?_cons_zero, List.getElem?_cons_succ]; rfl
            case hwu85 => rfl
            case hyu85 => (intro w9 hSw; (try dsimp only at hSw); go_simp; (try with_reducible rfl))
            case hQu85 => exact fun _ _ _ h => h
            (try simp only [Act.put, List.setIfInBounds_toArray, List.set_cons_zero, List.set_cons_succ])
            refine wpAnyH_take (i := 35) (oi := ?_) (v := ?_) ?hiu86 (by as_aux_lemma => kernel_rfl) (by as_aux_lemma => kernel_rfl) (by as_aux_lemma => kernel_rfl) ?hQu86 (Or.inl ⟨?hwu86, ?hyu86⟩) hHeld ?restu86
            case hiu86 => simp only [List.getElem?_toArray, List.getElem?_cons_zero, List.getElem?_cons_succ]; rfl
            case hwu86 => rfl
            case hyu86 => (intro w9 hSw; (try dsimp only at hSw); go_simp; (try with_reducible rfl))
            case hQu86 => exact fun _ _ _ h => h
            (try simp only [Act.put, List.setIfInBounds_toArray, List.set_cons_zero, List.set_cons_succ])
            refine wpAnyH_ready (rs := [25]) (by as_aux_lemma => kernel_rfl) (by simp) (AllReadyH.cons (o := ?_) ?hiu87 (fun K hK => ?_) AllReadyH.nil)
            case hiu87 => simp only [List.getElem?_toArray, List.getElem?_cons_zero, List.getElem?_cons_succ]; rfl
            (try rw [if_pos (by rfl)])
            go_wp2_with fail
            refine (ledFull_any gx bx room S2 _ (HX5.out.below hHeld.1 (Nat.le_refl _))).mono ?_
            rintro e w6 ⟨rfl, hb6⟩
            dsimp only
            refine hK.out _ _ ?_ (fun hHeld => ?_)
            · exact hS _ (bT hHeld.1 hb6)
            clear hK K
            (try simp only [Act.put, List.setIfInBounds_toArray, List.set_cons_zero, List.set_cons_succ])
            refine wpAnyH_take (i := 36) (oi := ?_) (v := ?_) ?hiu88 (by as_aux_lemma => kernel_rfl) (by as_aux_lemma => kernel_rfl) (by as_aux_lemma => kernel_rfl) ?hQu88 (Or.inl ⟨?hwu88, ?hyu88⟩) hHeld ?restu88
            case hiu88 => simp only [List.getElem?_toArray, List.getElem?_cons_zero, List.getElem?_cons_succ]; rfl
            case hwu88 => rfl
            case hyu88 => (intro w9 hSw; (try dsimp only at hSw); go_simp; (try with_reducible rfl))
            case hQu88 => exact fun _ _ _ h => h
            (try simp only [Act.put, List.setIfInBounds_toArray, List.set_cons_zero, List.set_cons_succ])
            refine wpAnyH_take (i := 37) (oi := ?_) (v := ?_) ?hiu89 (by as_aux_lemma => kernel_rfl) (by as_aux_lemma => kernel_rfl) (by as_aux_lemma => kernel_rfl) ?hQu89 (Or.inl ⟨?hwu89, ?hyu89⟩) hHeld ?restu89
            case hiu89 => simp only [List.getElem?_toArray, List.getElem?_cons_zero, List.getElem?_cons_succ]; rfl
            case hwu89 => rfl
            case hyu89 => (intro w9 hSw; (try dsimp only at hSw); go_simp; (try with_reducible rfl))
            case hQu89 => exact fun _ _ _ h => h
            (try simp only [Act.put, List.setIfInBounds_toArray, List.set_cons_zero, List.set_cons_succ])
            refine wpAnyH_take (i := 38) (oi := ?_) (v := ?_) ?hiu90 (by as_aux_lemma => kernel_rfl) (by as_aux_lemma => kernel_rfl) (by as_aux_lemma => kernel_rfl) ?hQu90 (Or.inl ⟨?hwu90, ?hyu90⟩) hHeld ?restu90
            case hiu90 => simp only [List.getElem?_toArray, List.getElem?_cons_zero, List.getElem?_cons_succ]; rfl
            case hwu90 => rfl
            case hyu90 => (intro w9 hSw; (try dsimp only at hSw); go_simp; (try with_reducible rfl))
            case hQu90 => exact fun _ _ _ h => h
            (try simp only [Act.put, List.setIfInBounds_toArray, List.set_cons_zero, List.set_cons_succ])
            refine wpAnyH_take (i := 39) (oi := ?_) (v := ?_) ?hiu91 (by as_aux_lemma => kernel_rfl) (by as_aux_lemma => kernel_rfl) (by as_aux_lemma => kernel_rfl) ?hQu91 (Or.inl ⟨?hwu91, ?hyu91⟩) hHeld ?restu91
            case hiu91 => simp only [List.getElem?_toArray, List.getElem?_cons_zero, List.getElem?_cons_succ]; rfl
            case hwu91 => rfl
            case hyu91 => (intro w9 hSw; (try dsimp only at hSw); go_simp; (try with_reducible rfl))
            case hQu91 => exact fun _ _ _ h => h
            (try simp only [Act.put, List.setIfInBounds_toArray, List.set_cons_zero, List.set_cons_succ])
            refine wpAnyH_take (i := 40) (oi := ?_) (v := ?_) ?hiu92 (by as_aux_lemma => kernel_rfl) (by as_aux_lemma => kernel_rfl) (by as_aux_lemma => kernel_rfl) ?hQu92 (Or.inl ⟨?hwu92, ?hyu92⟩) hHeld ?restu92
            case hiu92 => simp only [List.getElem?_toArray, List.getElem?_cons_zero, List.getElem?_cons_succ]; rfl
            case hwu92 => rfl
            case hyu92 => (intro w9 hSw; (try dsimp only at hSw); go_simp; (try with_reducible rfl))
            case hQu92 => exact fun _ _ _ h => h
            (try simp only [Act.put, List.setIfInBounds_toArray, List.set_cons_zero, List.set_cons_succ])
            refine wpAnyH_take (i := 41) (oi := ?_) (v := ?_) ?hiu93 (by as_aux_lemma => kernel_rfl) (by as_aux_lemma => kernel_rfl) (by as_aux_lemma => kernel_rfl) ?hQu93 (Or.inl ⟨?hwu93, ?hyu93⟩) hHeld ?restu93
            case hiu93 => simp only [List.getElem?_toArray, List.getElem?_cons_zero, List.getElem?_cons_succ]; rfl
            case hwu93 => rfl
            case hyu93 => (intro w9 hSw; (try dsimp only at hSw); go_simp; (try with_reducible rfl))
            case hQu93 => exact fun _ _ _ h => h
            (try simp only [Act.put, List.setIfInBounds_toArray, List.set_cons_zero, List.set_cons_succ])
            refine wpAnyH_take (i := 42) (oi := ?_) (v := ?_) ?hiu94 (by as_aux_lemma => kernel_rfl) (by as_aux_lemma => kernel_rfl) (by as_aux_lemma => kernel_rfl) ?hQu94 (Or.inl ⟨?hwu94, ?hyu94⟩) hHeld ?restu94
            case hiu94 => simp only [List.getElem?_toArray, List.getElem?_cons_zero, List.getElem?_cons_succ]; rfl
            case hwu94 => rfl
            case hyu94 => (intro w9 hSw; (try dsimp only at hSw); go_simp; (try with_reducible rfl))
            case hQu94 => exact fun _ _ _ h => h
            (try simp only [Act.put, List.setIfInBounds_toArray, List.set_cons_zero, List.set_cons_succ])
            refine wpAnyH_take (i := 44) (oi := ?_) (v := ?_) ?hiu95 (by as_aux_lemma => kernel_rfl) (by as_aux_lemma => kernel_rfl) (by as_aux_lemma => kernel_rfl) ?hQu95 (Or.inl ⟨?hwu95, ?hyu95⟩) hHeld ?restu95
            case hiu95 => simp only [List.getElem?_toArray, List.getElem?_cons_zero, List.getElem?_cons_succ]; rfl
            case hwu95 => rfl
            case hyu95 => (intro w9 hSw; (try dsimp only at hSw); go_simp; (try with_reducible rfl))
            case hQu95 => exact fun _ _ _ h => h
            (try simp only [Act.put, List.setIfInBounds_toArray, List.set_cons_zero, List.set_cons_succ])
            refine wpAnyH_take (i := 45) (oi := ?_) (v := ?_) ?hiu96 (by as_aux_lemma => kernel_rfl) (by as_aux_lemma => kernel_rfl) (by as_aux_lemma => kernel_rfl) ?hQu96 (Or.inl ⟨?hwu96, ?hyu96⟩) hHeld ?restu96
            case hiu96 => simp only [List.getElem?_toArray, List.getElem?_cons_zero, List.getElem?_cons_succ]; rfl
            case hwu96 => rfl
            case hyu96 => (intro w9 hSw; (try dsimp only at hSw); go_simp; (try with_reducible rfl))
            case hQu96 => exact fun _ _ _ h => h
            (try simp only [Act.put, List.setIfInBounds_toArray, List.set_cons_zero, List.set_cons_succ])
            refine wpAnyH_take (i := 46) (oi := ?_) (v := ?_) ?hiu97 (by as_aux_lemma => kernel_rfl) (by as_aux_lemma => kernel_rfl) (by as_aux_lemma => kernel_rfl) ?hQu97 (Or.inl ⟨?hwu97, ?hyu97⟩) hHeld ?restu97
            case hiu97 => simp only [List.getElem?_toArray, List.getElem?_cons_zero, List.getElem?_cons_succ]; rfl
            case hwu97 => rfl
            case hyu97 => (intro w9 hSw; (try dsimp only at hSw); go_simp; (try with_reducible rfl))
            case hQu97 => exact fun _ _ _ h => h
            (try simp only [Act.put, List.setIfInBounds_toArray, List.set_cons_zero, List.set_cons_succ])
            refine wpAnyH_take (i := 47) (oi := ?_) (v := ?_) ?hiu98 (by as_aux_lemma => kernel_rfl) (by as_aux_lemma => kernel_rfl) (by as_aux_lemma => kernel_rfl) ?hQu98 (Or.inl ⟨?hwu98, ?hyu98⟩) hHeld ?restu98
            case hiu98 => simp only [List.getElem?_toArray, List.getElem?_cons_zero, List.getElem?_cons_succ]; rfl
            case hwu98 => rfl
            case hyu98 => (intro w9 hSw; (try dsimp only at hSw); go_simp; (try with_reducible rfl))
            case hQu98 => exact fun _ _ _ h => h
            (try simp only [Act.put, List.setIfInBounds_toArray, List.set_cons_zero, List.set_cons_succ])
            refine wpAnyH_ready (rs := [43]) (by as_aux_lemma => kernel_rfl) (by simp) (AllReadyH.cons (o := ?_) ?hiu99 (fun K hK => ?_) AllReadyH.nil)
            case hiu99 => simp only [List.getElem?_toArray, List.getElem?_cons_zero, List.getElem?_cons_succ]; rfl
            (try rw [if_pos (by rfl)])
            go_wp2_with fail
            refine (ledIs_any e _).mono ?_
            rintro e w6 ⟨rfl, hb6⟩
            dsimp only
            refine hK.out _ _ ?_ (fun hHeld => ?_)
            · exact hS _ (bT hHeld.1 hb6)
            clear hK K
            (try simp only [Act.put, List.setIfInBounds_toArray, List.set_cons_zero, List.set_cons_succ])
            refine wpAnyH_ready (rs := [48]) (by as_aux_lemma => kernel_rfl) (by simp) (AllReadyH.cons (o := ?_) ?hiu100 (fun K hK => ?_) AllReadyH.nil)
            case hiu100 => simp only [List.getElem?_toArray, List.getElem?_cons_zero, List.getElem?_cons_succ]; rfl
            (try rw [if_pos (by rfl)])
            go_wp2_with fail
            refine (rledIs_any e _).mono ?_
            rintro e w6 ⟨rfl, hb6⟩
            dsimp only
            refine hK.out _ _ ?_ (fun hHeld => ?_)
            · exact hS _ (bT hHeld.1 hb6)
            clear hK K
            (try simp only [Act.put, List.setIfInBounds_toArray, List.set_cons_zero, List.set_cons_succ])
            refine wpAnyH_take (i := 49) (oi := ?_) (v := ?_) ?hiu101 (by as_aux_lemma => kernel_rfl) (by as_aux_lemma => kernel_rfl) (by as_aux_lemma => kernel_rfl) ?hQu101 (Or.inl ⟨?hwu101, ?hyu101⟩) hHeld ?restu101
            case hiu101 => simp only [List.getElem?_toArray, List.getElem?_cons_zero, List.getElem?_cons_succ]; rfl
            case hwu101 => rfl
            case hyu101 => (intro w9 hSw; (try dsimp only at hSw); go_simp; (try with_reducible rfl))
            case hQu101 => exact fun _ _ _ h => h
            (try simp only [Act.put, List.setIfInBounds_toArray, List.set_cons_zero, List.set_cons_succ])
            refine wpAnyH_take (i := 50) (oi := ?_) (v := ?_) ?hiu102 (by as_aux_lemma => kernel_rfl) (by as_aux_lemma => kernel_rfl) (by as_aux_lemma => kernel_rfl) ?hQu102 (Or.inl ⟨?hwu102, ?hyu102⟩) hHeld ?restu102
            case hiu102 => simp only [List.getElem?_toArray, List.getElem?_cons_zero, List.getElem?_cons_succ]; rfl
            case hwu102 => rfl
            case hyu102 => (intro w9 hSw; (try dsimp only at hSw); go_simp; (try with_reducible rfl))
            case hQu102 => exact fun _ _ _ h => h
            (try simp only [Act.put, List.setIfInBounds_toArray, List.set_cons_zero, List.set_cons_succ])
            refine wpAnyH_done (by as_aux_lemma => kernel_rfl) ?_ _
            have HX7 := Lib.hid (HX5.out.below hHeld.1 (Nat.le_refl _))
            have HM7 := Lib.hid (HM5.out.below hHeld.1 (Nat.le_refl _))
            have HB7 := Lib.hid (bT HB5.out hHeld.1)
            clear hHeld hS
            go_wp2
            go_roundw
            case rel => exact ⟨k + 1, S2, by omega, by go_num, HX7, HM7, HB7⟩
            case measure => simp [intOf]; omega
      · obtain ⟨S2, z, hq⟩ : ∃ S2 z, addR room S e = (S2, z) := ⟨_, _, rfl⟩
        obtain ⟨y, zz, hg⟩ : ∃ y zz, gotR S2 e.a0 = (y, zz) := ⟨_, _, rfl⟩
        have HQ := Lib.hid hq
        have HG := Lib.hid hg
        clear hq hg
        as_aux_lemma =>
          go_wp2_with (first | (go_at_call 15; (with_reducible refine (ledAdd_any gx bx room S e _ HX.out).mono ?_); rw [HQ.out]; rintro r w2 ⟨rfl, hl2, hg2⟩; have HX2 := Lib.hid hl2; have HM2 := Lib.hid (HM.out.grown hg2 HN.out.1); have HB2 := Lib.hid (HB.out.trans (below_of_grown hg2 HB.out.size HN.out.2.2.1)); clear HX HM hl2 hg2 x0 x1 x2 x3 x4 x5 x6 x7 x8 x9 x10 x11 x12 x13; obtain ⟨ad2, hA2, ha⟩ := (HA.out.below HB2.out (Nat.le_refl _)).at_ hlt; rw [HE.out] at ha; obtain rfl := Option.some.inj hA2; obtain ⟨x0, x1, x2, x3, x4, x5, x6, x7, x8, x9, x10, x11, x12, x13⟩ := ha.cells; clear ha) | (go_at_call 16; (with_reducible refine (rledAdd_any gm room S e _ HM2.out).mono ?_); rw [HQ.out]; rintro r w3 ⟨rfl, hm3, hb3⟩; have HM3 := Lib.hid hm3; have HX3 := Lib.hid (HX2.out.keep (hb3.block gx HN.out.2.1) (hb3.block bx HN.out.1)); have HB3 := Lib.hid (HB2.out.trans (hb3.mono HN.out.2.2.2)); clear HX2 HM2 hm3 hb3 x0 x1 x2 x3 x4 x5 x6 x7 x8 x9 x10 x11 x12 x13; obtain ⟨ad2, hA2, ha⟩ := (HA.out.below HB3.out (Nat.le_refl _)).at_ hlt; rw [HE.out] at ha; obtain rfl := Option.some.inj hA2; obtain ⟨x0, x1, x2, x3, x4, x5, x6, x7, x8, x9, x10, x11, x12, x13⟩ := ha.cells; clear ha) | (go_at_call 17; (with_reducible refine (ledGet_any gx bx room e.a0 S2 _ HX3.out HWF.out y zz HG.out).mono ?_); rintro r w4 ⟨rfl, hb4⟩; have hb5 : Below w3.heap.size w3 (w4.alloc (.cells #[.int .i64 y.a0, .int .i64 y.a1, .int .i64 y.a2, .int .i64 y.a3, .int .i64 y.a4, .int .i64 y.a5, .int .i64 y.a6, .int .i64 y.a7, .int .i64 y.a8, .int .i64 y.a9, .int .i64 y.a10, .int .i64 y.l, .int .i64 y.i, .bool y.bk] 37)) := bA hb4 _; have HX4 := Lib.hid (HX3.out.below hb5 (Nat.le_refl _)); have HM4 := Lib.hid (HM3.out.below hb5 (Nat.le_refl _)); have HB4 := Lib.hid (bT HB3.out hb5); have HY4 := Lib.hid (heap_alloc_new w4 (.cells #[.int .i64 y.a0, .int .i64 y.a1, .int .i64 y.a2, .int .i64 y.a3, .int .i64 y.a4, .int .i64 y.a5, .int .i64 y.a6, .int .i64 y.a7, .int .i64 y.a8, .int .i64 y.a9, .int .i64 y.a10, .int .i64 y.l, .int .i64 y.i, .bool y.bk] 37)); clear HX3 HM3 hb4 hb5 x0 x1 x2 x3 x4 x5 x6 x7 x8 x9 x10 x11 x12 x13; obtain ⟨ad2, hA2, ha⟩ := (HA.out.below HB4.out (Nat.le_refl _)).at_ hlt; rw [HE.out] at ha; obtain rfl := Option.some.inj hA2; obtain ⟨x0, x1, x2, x3, x4, x5, x6, x7, x8, x9, x10, x11, x12, x13⟩ := ha.cells; clear ha) | (go_at_call 18; (with_reducible refine (rledGet_any gm room e.a0 S2 _ HM4.out y zz HG.out).mono ?_); rintro r w5 ⟨rfl, hb5⟩; have hb6 : Below (w4.alloc (.cells #[.int .i64 y.a0, .int .i64 y.a1, .int .i64 y.a2, .int .i64 y.a3, .int .i64 y.a4, .int .i64 y.a5, .int .i64 y.a6, .int .i64 y.a7, .int .i64 y.a8, .int .i64 y.a9, .int .i64 y.a10, .int .i64 y.l, .int .i64 y.i, .bool y.bk] 37)).heap.size (w4.alloc (.cells #[.int .i64 y.a0, .int .i64 y.a1, .int .i64 y.a2, .int .i64 y.a3, .int .i64 y.a4, .int .i64 y.a5, .int .i64 y.a6, .int .i64 y.a7, .int .i64 y.a8, .int .i64 y.a9, .int .i64 y.a10, .int .i64 y.l, .int .i64 y.i, .bool y.bk] 37)) (w5.alloc (.cells #[.int .i64 y.a0, .int .i64 y.a1, .int .i64 y.a2, .int .i64 y.a3, .int .i64 y.a4, .int .i64 y.a5, .int .i64 y.a6, .int .i64 y.a7, .int .i64 y.a8, .int .i64 y.a9, .int .i64 y.a10, .int .i64 y.l, .int .i64 y.i, .bool y.bk] 37)) := bA hb5 _; have HX5 := Lib.hid (HX4.out.below hb6 (Nat.le_refl _)); have HM5 := Lib.hid (HM4.out.below hb6 (Nat.le_refl _)); have HB5 := Lib.hid (bT HB4.out hb6); have HY5 := Lib.hid ((hb6.block _ (Array.getElem?_eq_some_iff.1 HY4.out).1).trans HY4.out); have HZ5 := Lib.hid (heap_alloc_new w5 (.cells #[.int .i64 y.a0, .int .i64 y.a1, .int .i64 y.a2, .int .i64 y.a3, .int .i64 y.a4, .int .i64 y.a5, .int .i64 y.a6, .int .i64 y.a7, .int .i64 y.a8, .int .i64 y.a9, .int .i64 y.a10, .int .i64 y.l, .int .i64 y.i, .bool y.bk] 37)); clear HX4 HM4 HY4 hb5 hb6 x0 x1 x2 x3 x4 x5 x6 x7 x8 x9 x10 x11 x12 x13))
          obtain ⟨W0, hW0⟩ : ∃ W0, (w5.alloc (.cells #[.int .i64 y.a0, .int .i64 y.a1, .int .i64 y.a2, .int .i64 y.a3, .int .i64 y.a4, .int .i64 y.a5, .int .i64 y.a6, .int .i64 y.a7, .int .i64 y.a8, .int .i64 y.a9, .int .i64 y.a10, .int .i64 y.l, .int .i64 y.i, .bool y.bk] 37)) = W0 := ⟨_, rfl⟩
          rw [hW0] at HX5 HM5 HB5 HY5 HZ5
          rw [hW0]
          clear hW0
          obtain ⟨ad2, hA2, ha⟩ := (HA.out.below HB5.out (Nat.le_refl _)).at_ hlt
          rw [HE.out] at ha
          obtain rfl := Option.some.inj hA2
          have HE5 := Lib.hid ha
          obtain ⟨A2, c2, m1, m2, m3, m4, m5, m6, m7⟩ := HM5.out
          have HMB := Lib.hid m1
          clear ha m1 m2 m3 m4 m5 m6 m7
          have hS := fun w9 (h : Below W0.heap.size W0 w9) => ld_s HY5 HZ5 HE5 HMB h
          refine wp_region_held_drew (S := fun w9 => Below W0.heap.size W0 w9 ∧ w9.cell? ⟨w4.heap.size, 0, none⟩ = some (.int .i64 y.a0) ∧ w9.cell? ⟨w4.heap.size, 1, none⟩ = some (.int .i64 y.a1) ∧ w9.cell? ⟨w4.heap.size, 2, none⟩ = some (.int .i64 y.a2) ∧ w9.cell? ⟨w4.heap.size, 3, none⟩ = some (.int .i64 y.a3) ∧ w9.cell? ⟨w4.heap.size, 4, none⟩ = some (.int .i64 y.a4) ∧ w9.cell? ⟨w4.heap.size, 5, none⟩ = some (.int .i64 y.a5) ∧ w9.cell? ⟨w4.heap.size, 6, none⟩ = some (.int .i64 y.a6) ∧ w9.cell? ⟨w4.heap.size, 7, none⟩ = some (.int .i64 y.a7) ∧ w9.cell? ⟨w4.heap.size, 8, none⟩ = some (.int .i64 y.a8) ∧ w9.cell? ⟨w4.heap.size, 9, none⟩ = some (.int .i64 y.a9) ∧ w9.cell? ⟨w4.heap.size, 10, none⟩ = some (.int .i64 y.a10) ∧ w9.cell? ⟨w4.heap.size, 11, none⟩ = some (.int .i64 y.l) ∧ w9.cell? ⟨w4.heap.size, 12, none⟩ = some (.int .i64 y.i) ∧ w9.cell? ⟨w4.heap.size, 13, none⟩ = some (.bool y.bk) ∧ w9.cell? ⟨w5.heap.size, 0, none⟩ = some (.int .i64 y.a0) ∧ w9.cell? ⟨w5.heap.size, 1, none⟩ = some (.int .i64 y.a1) ∧ w9.cell? ⟨w5.heap.size, 2, none⟩ = some (.int .i64 y.a2) ∧ w9.cell? ⟨w5.heap.size, 3, none⟩ = some (.int .i64 y.a3) ∧ w9.cell? ⟨w5.heap.size, 4, none⟩ = some (.int .i64 y.a4) ∧ w9.cell? ⟨w5.heap.size, 5, none⟩ = some (.int .i64 y.a5) ∧ w9.cell? ⟨w5.heap.size, 6, none⟩ = some (.int .i64 y.a6) ∧ w9.cell? ⟨w5.heap.size, 7, none⟩ = some (.int .i64 y.a7) ∧ w9.cell? ⟨w5.heap.size, 8, none⟩ = some (.int .i64 y.a8) ∧ w9.cell? ⟨w5.heap.size, 9, none⟩ = some (.int .i64 y.a9) ∧ w9.cell? ⟨w5.heap.size, 10, none⟩ = some (.int .i64 y.a10) ∧ w9.cell? ⟨w5.heap.size, 11, none⟩ = some (.int .i64 y.l) ∧ w9.cell? ⟨w5.heap.size, 12, none⟩ = some (.int .i64 y.i) ∧ w9.cell? ⟨w5.heap.size, 13, none⟩ = some (.bool y.bk) ∧ w9.cell? (ad.add (k * 14)) = some (.int .i64 e.a0) ∧ w9.cell? ⟨((ad.add (k * 14))).block, ((ad.add (k * 14))).off + 1, none⟩ = some (.int .i64 e.a1) ∧ w9.cell? ⟨((ad.add (k * 14))).block, ((ad.add (k * 14))).off + 2, none⟩ = some (.int .i64 e.a2) ∧ w9.cell? ⟨((ad.add (k * 14))).block, ((ad.add (k * 14))).off + 3, none⟩ = some (.int .i64 e.a3) ∧ w9.cell? ⟨((ad.add (k * 14))).block, ((ad.add (k * 14))).off + 4, none⟩ = some (.int .i64 e.a4) ∧ w9.cell? ⟨((ad.add (k * 14))).block, ((ad.add (k * 14))).off + 5, none⟩ = some (.int .i64 e.a5) ∧ w9.cell? ⟨((ad.add (k * 14))).block, ((ad.add (k * 14))).off + 6, none⟩ = some (.int .i64 e.a6) ∧ w9.cell? ⟨((ad.add (k * 14))).block, ((ad.add (k * 14))).off + 7, none⟩ = some (.int .i64 e.a7) ∧ w9.cell? ⟨((ad.add (k * 14))).block, ((ad.add (k * 14))).off + 8, none⟩ = some (.int .i64 e.a8) ∧ w9.cell? ⟨((ad.add (k * 14))).block, ((ad.add (k * 14))).off + 9, none⟩ = some (.int .i64 e.a9) ∧ w9.cell? ⟨((ad.add (k * 14))).block, ((ad.add (k * 14))).off + 10, none⟩ = some (.int .i64 e.a10) ∧ w9.cell? ⟨((ad.add (k * 14))).block, ((ad.add (k * 14))).off + 11, none⟩ = some (.int .i64 e.l) ∧ w9.cell? ⟨((ad.add (k * 14))).block, ((ad.add (k * 14))).off + 12, none⟩ = some (.int .i64 e.i) ∧ w9.cell? ⟨((ad.add (k * 14))).block, ((ad.add (k * 14))).off + 13, none⟩ = some (.bool e.bk) ∧ w9.cell? ⟨gm, 0, none⟩ = some (.int .i64 room) ∧ w9.cell? ⟨gm, 1, none⟩ = some (.slice A2 S2.length c2)) (by kernel_rfl) (hS _ (bD (bR W0))) (fun hHeld => ?_)
          refine wpAnyH_take (i := 0) (oi := ?_) (v := ?_) ?hiu103 (by as_aux_lemma => kernel_rfl) (by as_aux_lemma => kernel_rfl) (by as_aux_lemma => kernel_rfl) ?hQu103 (Or.inl ⟨?hwu103, ?hyu103⟩) hHeld ?restu103
          case hiu103 => simp only [List.getElem?_toArray, List.getElem?_cons_zero, List.getElem?_cons_succ]; rfl
          case hwu103 => rfl
          case hyu103 => (intro w9 hSw; (try dsimp only at hSw); go_simp; (try with_reducible rfl))
          case hQu103 => exact fun _ _ _ h => h
          (try simp only [Act.put, List.setIfInBounds_toArray, List.set_cons_zero, List.set_cons_succ])
          refine wpAnyH_take (i := 1) (oi := ?_) (v := ?_) ?hiu104 (by as_aux_lemma => kernel_rfl) (by as_aux_lemma => kernel_rfl) (by as_aux_lemma => kernel_rfl) ?hQu104 (Or.inl ⟨?hwu104, ?hyu104⟩) hHeld ?restu104
          case hiu104 => simp only [List.getElem?_toArray, List.getElem?_cons_zero, List.getElem?_cons_succ]; rfl
          case hwu104 => rfl
          case hyu104 => (intro w9 hSw; (try dsimp only at hSw); go_simp; (try with_reducible rfl))
          case hQu104 => exact fun _ _ _ h => h
          (try simp only [Act.put, List.setIfInBounds_toArray, List.set_cons_zero, List.set_cons_succ])
          refine wpAnyH_take (i := 2) (oi := ?_) (v := ?_) ?hiu105 (by as_aux_lemma => kernel_rfl) (by as_aux_lemma => kernel_rfl) (by as_aux_lemma => kernel_rfl) ?hQu105 (Or.inl ⟨?hwu105, ?hyu105⟩) hHeld ?restu105
          case hiu105 => simp only [List.getElem?_toArray, List.getElem?_cons_zero, List.getElem?_cons_succ]; rfl
          case hwu105 => rfl
          case hyu105 => (intro w9 hSw; (try dsimp only at hSw); go_simp; (try with_reducible rfl))
          case hQu105 => exact fun _ _ _ h => h
          (try simp only [Act.put, List.setIfInBounds_toArray, List.set_cons_zero, List.set_cons_succ])
          refine wpAnyH_take (i := 3) (oi := ?_) (v := ?_) ?hiu106 (by as_aux_lemma => kernel_rfl) (by as_aux_lemma => kernel_rfl) (by as_aux_lemma => kernel_rfl) ?hQu106 (Or.inl ⟨?hwu106, ?hyu106⟩) hHeld ?restu106
          case hiu106 => simp only [List.getElem?_toArray, List.getElem?_cons_zero, List.getElem?_cons_succ]; rfl
          case hwu106 => rfl
          case hyu106 => (intro w9 hSw; (try dsimp only at hSw); go_simp; (try with_reducible rfl))
          case hQu106 => exact fun _ _ _ h => h
          (try simp only [Act.put, List.setIfInBounds_toArray, List.set_cons_zero, List.set_cons_succ])
          refine wpAnyH_take (i := 4) (oi := ?_) (v := ?_) ?hiu107 (by as_aux_lemma => kernel_rfl) (by as_aux_lemma => kernel_rfl) (by as_aux_lemma => kernel_rfl) ?hQu107 (Or.inl ⟨?hwu107, ?hyu107⟩) hHeld ?restu107
          case hiu107 => simp only [List.getElem?_toArray, List.getElem?_cons_zero, List.getElem?_cons_succ]; rfl
          case hwu107 => rfl
          case hyu107 => (intro w9 hSw; (try dsimp only at hSw); go_simp; (try with_reducible rfl))
          case hQu107 => exact fun _ _ _ h => h
          (try simp only [Act.put, List.setIfInBounds_toArray, List.set_cons_zero, List.set_cons_succ])
          refine wpAnyH_take (i := 5) (oi := ?_) (v := ?_) ?hiu108 (by as_aux_lemma => kernel_rfl) (by as_aux_lemma => kernel_rfl) (by as_aux_lemma => kernel_rfl) ?hQu108 (Or.inl ⟨?hwu108, ?hyu108⟩) hHeld ?restu108
          case hiu108 => simp only [List.getElem?_toArray, List.getElem?_cons_zero, List.getElem?_cons_succ]; rfl
          case hwu108 => rfl
          case hyu108 => (intro w9 hSw; (try dsimp only at hSw); go_simp; (try with_reducible rfl))
          case hQu108 => exact fun _ _ _ h => h
          (try simp only [Act.put, List.setIfInBounds_toArray, List.set_cons_zero, List.set_cons_succ])
          refine wpAnyH_take (i := 6) (oi := ?_) (v := ?_) ?hiu109 (by as_aux_lemma => kernel_rfl) (by as_aux_lemma => kernel_rfl) (by as_aux_lemma => kernel_rfl) ?hQu109 (Or.inl ⟨?hwu109, ?hyu109⟩) hHeld ?restu109
          case hiu109 => simp only [List.getElem?_toArray, List.getElem?_cons_zero, List.getElem?_cons_succ]; rfl
          case hwu109 => rfl
          case hyu109 => (intro w9 hSw; (try dsimp only at hSw); go_simp; (try with_reducible rfl))
          case hQu109 => exact fun _ _ _ h => h
          (try simp only [Act.put, List.setIfInBounds_toArray, List.set_cons_zero, List.set_cons_succ])
          refine wpAnyH_take (i := 7) (oi := ?_) (v := ?_) ?hiu110 (by as_aux_lemma => kernel_rfl) (by as_aux_lemma => kernel_rfl) (by as_aux_lemma => kernel_rfl) ?hQu110 (Or.inl ⟨?hwu110, ?hyu110⟩) hHeld ?restu110
          case hiu110 => simp only [List.getElem?_toArray, List.getElem?_cons_zero, List.getElem?_cons_succ]; rfl
          case hwu110 => rfl
          case hyu110 => (intro w9 hSw; (try dsimp only at hSw); go_simp; (try with_reducible rfl))
          case hQu110 => exact fun _ _ _ h => h
          (try simp only [Act.put, List.setIfInBounds_toArray, List.set_cons_zero, List.set_cons_succ])
          refine wpAnyH_take (i := 8) (oi := ?_) (v := ?_) ?hiu111 (by as_aux_lemma => kernel_rfl) (by as_aux_lemma => kernel_rfl) (by as_aux_lemma => kernel_rfl) ?hQu111 (Or.inl ⟨?hwu111, ?hyu111⟩) hHeld ?restu111
          case hiu111 => simp only [List.getElem?_toArray, List.getElem?_cons_zero, List.getElem?_cons_succ]; rfl
          case hwu111 => rfl
          case hyu111 => (intro w9 hSw; (try dsimp only at hSw); go_simp; (try with_reducible rfl))
          case hQu111 => exact fun _ _ _ h => h
          (try simp only [Act.put, List.setIfInBounds_toArray, List.set_cons_zero, List.set_cons_succ])
          refine wpAnyH_take (i := 9) (oi := ?_) (v := ?_) ?hiu112 (by as_aux_lemma => kernel_rfl) (by as_aux_lemma => kernel_rfl) (by as_aux_lemma => kernel_rfl) ?hQu112 (Or.inl ⟨?hwu112, ?hyu112⟩) hHeld ?restu112
          case hiu112 => simp only [List.getElem?_toArray, List.getElem?_cons_zero, List.getElem?_cons_succ]; rfl
          case hwu112 => rfl
          case hyu112 => (intro w9 hSw; (try dsimp only at hSw); go_simp; (try with_reducible rfl))
          case hQu112 => exact fun _ _ _ h => h
          (try simp only [Act.put, List.setIfInBounds_toArray, List.set_cons_zero, List.set_cons_succ])
          refine wpAnyH_take (i := 10) (oi := ?_) (v := ?_) ?hiu113 (by as_aux_lemma => kernel_rfl) (by as_aux_lemma => kernel_rfl) (by as_aux_lemma => kernel_rfl) ?hQu113 (Or.inl ⟨?hwu113, ?hyu113⟩) hHeld ?restu113
          case hiu113 => simp only [List.getElem?_toArray, List.getElem?_cons_zero, List.getElem?_cons_succ]; rfl
          case hwu113 => rfl
          case hyu113 => (intro w9 hSw; (try dsimp only at hSw); go_simp; (try with_reducible rfl))
          case hQu113 => exact fun _ _ _ h => h
          (try simp only [Act.put, List.setIfInBounds_toArray, List.set_cons_zero, List.set_cons_succ])
          refine wpAnyH_take (i := 11) (oi := ?_) (v := ?_) ?hiu114 (by as_aux_lemma => kernel_rfl) (by as_aux_lemma => kernel_rfl) (by as_aux_lemma => kernel_rfl) ?hQu114 (Or.inl ⟨?hwu114, ?hyu114⟩) hHeld ?restu114
          case hiu114 => simp only [List.getElem?_toArray, List.getElem?_cons_zero, List.getElem?_cons_succ]; rfl
          case hwu114 => rfl
          case hyu114 => (intro w9 hSw; (try dsimp only at hSw); go_simp; (try with_reducible rfl))
          case hQu114 => exact fun _ _ _ h => h
          (try simp only [Act.put, List.setIfInBounds_toArray, List.set_cons_zero, List.set_cons_succ])
          refine wpAnyH_take (i := 12) (oi := ?_) (v := ?_) ?hiu115 (by as_aux_lemma => kernel_rfl) (by as_aux_lemma => kernel_rfl) (by as_aux_lemma => kernel_rfl) ?hQu115 (Or.inl ⟨?hwu115, ?hyu115⟩) hHeld ?restu115
          case hiu115 => simp only [List.getElem?_toArray, List.getElem?_cons_zero, List.getElem?_cons_succ]; rfl
          case hwu115 => rfl
          case hyu115 => (intro w9 hSw; (try dsimp only at hSw); go_simp; (try with_reducible rfl))
          case hQu115 => exact fun _ _ _ h => h
          (try simp only [Act.put, List.setIfInBounds_toArray, List.set_cons_zero, List.set_cons_succ])
          refine wpAnyH_take (i := 13) (oi := ?_) (v := ?_) ?hiu116 (by as_aux_lemma => kernel_rfl) (by as_aux_lemma => kernel_rfl) (by as_aux_lemma => kernel_rfl) ?hQu116 (Or.inl ⟨?hwu116, ?hyu116⟩) hHeld ?restu116
          case hiu116 => simp only [List.getElem?_toArray, List.getElem?_cons_zero, List.getElem?_cons_succ]; rfl
          case hwu116 => rfl
          case hyu116 => (intro w9 hSw; (try dsimp only at hSw); go_simp; (try with_reducible rfl))
          case hQu116 => exact fun _ _ _ h => h
          (try simp only [Act.put, List.setIfInBounds_toArray, List.set_cons_zero, List.set_cons_succ])
          refine wpAnyH_take (i := 14) (oi := ?_) (v := ?_) ?hiu117 (by as_aux_lemma => kernel_rfl) (by as_aux_lemma => kernel_rfl) (by as_aux_lemma => kernel_rfl) ?hQu117 (Or.inl ⟨?hwu117, ?hyu117⟩) hHeld ?restu117
          case hiu117 => simp only [List.getElem?_toArray, List.getElem?_cons_zero, List.getElem?_cons_succ]; rfl
          case hwu117 => rfl
          case hyu117 => (intro w9 hSw; (try dsimp only at hSw); go_simp; (try with_reducible rfl))
          case hQu117 => exact fun _ _ _ h => h
          (try simp only [Act.put, List.setIfInBounds_toArray, List.set_cons_zero, List.set_cons_succ])
          refine wpAnyH_take (i := 16) (oi := ?_) (v := ?_) ?hiu118 (by as_aux_lemma => kernel_rfl) (by as_aux_lemma => kernel_rfl) (by as_aux_lemma => kernel_rfl) ?hQu118 (Or.inl ⟨?hwu118, ?hyu118⟩) hHeld ?restu118
          case hiu118 => simp only [List.getElem?_toArray, List.getElem?_cons_zero, List.getElem?_cons_succ]; rfl
          case hwu118 => rfl
          case hyu118 => (intro w9 hSw; (try dsimp only at hSw); go_simp; (try with_reducible rfl))
          case hQu118 => exact fun _ _ _ h => h
          (try simp only [Act.put, List.setIfInBounds_toArray, List.set_cons_zero, List.set_cons_succ])
          refine wpAnyH_take (i := 17) (oi := ?_) (v := ?_) ?hiu119 (by as_aux_lemma => kernel_rfl) (by as_aux_lemma => kernel_rfl) (by as_aux_lemma => kernel_rfl) ?hQu119 (Or.inl ⟨?hwu119, ?hyu119⟩) hHeld ?restu119
          case hiu119 => simp only [List.getElem?_toArray, List.getElem?_cons_zero, List.getElem?_cons_succ]; rfl
          case hwu119 => rfl
          case hyu119 => (intro w9 hSw; (try dsimp only at hSw); go_simp; (try with_reducible rfl))
          case hQu119 => exact fun _ _ _ h => h
          (try simp only [Act.put, List.setIfInBounds_toArray, List.set_cons_zero, List.set_cons_succ])
          refine wpAnyH_take (i := 18) (oi := ?_) (v := ?_) ?hiu120 (by as_aux_lemma => kernel_rfl) (by as_aux_lemma => kernel_rfl) (by as_aux_lemma => kernel_rfl) ?hQu120 (Or.inl ⟨?hwu120, ?hyu120⟩) hHeld ?restu120
          case hiu120 => simp only [List.getElem?_toArray, List.getElem?_cons_zero, List.getElem?_cons_succ]; rfl
          case hwu120 => rfl
          case hyu120 => (intro w9 hSw; (try dsimp only at hSw); go_simp; (try with_reducible rfl))
          case hQu120 => exact fun _ _ _ h => h
          (try simp only [Act.put, List.setIfInBounds_toArray, List.set_cons_zero, List.set_cons_succ])
          refine wpAnyH_take (i := 19) (oi := ?_) (v := ?_) ?hiu121 (by as_aux_lemma => kernel_rfl) (by as_aux_lemma => kernel_rfl) (by as_aux_lemma => kernel_rfl) ?hQu121 (Or.inl ⟨?hwu121, ?hyu121⟩) hHeld ?restu121
          case hiu121 => simp only [List.getElem?_toArray, List.getElem?_cons_zero, List.getElem?_cons_succ]; rfl
          case hwu121 => rfl
          case hyu121 => (intro w9 hSw; (try dsimp only at hSw); go_simp; (try with_reducible rfl))
          case hQu121 => exact fun _ _ _ h => h
          (try simp only [Act.put, List.setIfInBounds_toArray, List.set_cons_zero, List.set_cons_succ])
          refine wpAnyH_take (i := 20) (oi := ?_) (v := ?_) ?hiu122 (by as_aux_lemma => kernel_rfl) (by as_aux_lemma => kernel_rfl) (by as_aux_lemma => kernel_rfl) ?hQu122 (Or.inl ⟨?hwu122, ?hyu122⟩) hHeld ?restu122
          case hiu122 => simp only [List.getElem?_toArray, List.getElem?_cons_zero, List.getElem?_cons_succ]; rfl
          case hwu122 => rfl
          case hyu122 => (intro w9 hSw; (try dsimp only at hSw); go_simp; (try with_reducible rfl))
          case hQu122 => exact fun _ _ _ h => h
          (try simp only [Act.put, List.setIfInBounds_toArray, List.set_cons_zero, List.set_cons_succ])
          refine wpAnyH_ready (rs := [15]) (by as_aux_lemma => kernel_rfl) (by simp) (AllReadyH.cons (o := ?_) ?hiu123 (fun K hK => ?_) AllReadyH.nil)
          case hiu123 => simp only [List.getElem?_toArray, List.getElem?_cons_zero, List.getElem?_cons_succ]; rfl
          (try rw [if_pos (by rfl)])
          go_wp2_with fail
          refine (ledLen_any gx bx room S2 _ (HX5.out.below hHeld.1 (Nat.le_refl _))).mono ?_
          rintro e w6 ⟨rfl, hb6⟩
          dsimp only
          refine hK.out _ _ ?_ (fun hHeld => ?_)
          · exact hS _ (bT hHeld.1 hb6)
          clear hK K
          (try simp only [Act.put, List.setIfInBounds_toArray, List.set_cons_zero, List.set_cons_succ])
          refine wpAnyH_take (i := 21) (oi := ?_) (v := ?_) ?hiu124 (by as_aux_lemma => kernel_rfl) (by as_aux_lemma => kernel_rfl) (by as_aux_lemma => kernel_rfl) ?hQu124 (Or.inl ⟨?hwu124, ?hyu124⟩) hHeld ?restu124
          case hiu124 => simp only [List.getElem?_toArray, List.getElem?_cons_zero, List.getElem?_cons_succ]; rfl
          case hwu124 => rfl
          case hyu124 => (intro w9 hSw; (try dsimp only at hSw); go_simp; (try with_reducible rfl))
          case hQu124 => exact fun _ _ _ h => h
          (try simp only [Act.put, List.setIfInBounds_toArray, List.set_cons_zero, List.set_cons_succ])
          refine wpAnyH_take (i := 22) (oi := ?_) (v := ?_) ?hiu125 (by as_aux_lemma => kernel_rfl) (by as_aux_lemma => kernel_rfl) (by as_aux_lemma => kernel_rfl) ?hQu125 (Or.inl ⟨?hwu125, ?hyu125⟩) hHeld ?restu125
          case hiu125 => simp only [List.getElem?_toArray, List.getElem?_cons_zero, List.getElem?_cons_succ]; rfl
          case hwu125 => rfl
          case hyu125 => (intro w9 hSw; (try dsimp only at hSw); go_simp; (try with_reducible rfl))
          case hQu125 => exact fun _ _ _ h => h
          (try simp only [Act.put, List.setIfInBounds_toArray, List.set_cons_zero, List.set_cons_succ])
          refine wpAnyH_take (i := 23) (oi := ?_) (v := ?_) ?hiu126 (by as_aux_lemma => kernel_rfl) (by as_aux_lemma => kernel_rfl) (by as_aux_lemma => kernel_rfl) ?hQu126 (Or.inl ⟨?hwu126, ?hyu126⟩) hHeld ?restu126
          case hiu126 => simp only [List.getElem?_toArray, List.getElem?_cons_zero, List.getElem?_cons_succ]; rfl
          case hwu126 => rfl
          case hyu126 => (intro w9 hSw; (try dsimp only at hSw); go_simp; (try with_reducible rfl))
          case hQu126 => exact fun _ _ _ h => h
          (try simp only [Act.put, List.setIfInBounds_toArray, List.set_cons_zero, List.set_cons_succ])
          refine wpAnyH_take (i := 24) (oi := ?_) (v := ?_) ?hiu127 (by as_aux_lemma => kernel_rfl) (by as_aux_lemma => kernel_rfl) (by as_aux_lemma => kernel_rfl) ?hQu127 (Or.inl ⟨?hwu127, ?hyu127⟩) hHeld ?restu127
          case hiu127 => simp only [List.getElem?_toArray, List.getElem?_cons_zero, List.getElem?_cons_succ]; rfl
          case hwu127 => rfl
          case hyu127 => (intro w9 hSw; (try dsimp only at hSw); go_simp; (try with_reducible rfl))
          case hQu127 => exact fun _ _ _ h => h
          (try simp only [Act.put, List.setIfInBounds_toArray, List.set_cons_zero, List.set_cons_succ])
          refine wpAnyH_take (i := 26) (oi := ?_) (v := ?_) ?hiu128 (by as_aux_lemma => kernel_rfl) (by as_aux_lemma => kernel_rfl) (by as_aux_lemma => kernel_rfl) ?hQu128 (Or.inl ⟨?hwu128, ?hyu128⟩) hHeld ?restu128
          case hiu128 => simp only [List.getElem?_toArray, List.getElem?_cons_zero, List.getElem?_cons_succ]; rfl
          case hwu128 => rfl
          case hyu128 => (intro w9 hSw; (try dsimp only at hSw); go_simp; (try with_reducible rfl))
          case hQu128 => exact fun _ _ _ h => h
          (try simp only [Act.put, List.setIfInBounds_toArray, List.set_cons_zero, List.set_cons_succ])
          refine wpAnyH_take (i := 27) (oi := ?_) (v := ?_) ?hiu129 (by as_aux_lemma => kernel_rfl) (by as_aux_lemma => kernel_rfl) (by as_aux_lemma => kernel_rfl) ?hQu129 (Or.inl ⟨?hwu129, ?hyu129⟩) hHeld ?restu129
          case hiu129 => simp only [List.getElem?_toArray, List.getElem?_cons_zero, List.getElem?_cons_succ]; rfl
          case hwu129 => rfl
          case hyu129 => (intro w9 hSw; (try dsimp only at hSw); go_simp; (try with_reducible rfl))
          case hQu129 => exact fun _ _ _ h => h
          (try simp only [Act.put, List.setIfInBounds_toArray, List.set_cons_zero, List.set_cons_succ])
          refine wpAnyH_take (i := 28) (oi := ?_) (v := ?_) ?hiu130 (by as_aux_lemma => kernel_rfl) (by as_aux_lemma => kernel_rfl) (by as_aux_lemma => kernel_rfl) ?hQu130 (Or.inl ⟨?hwu130, ?hyu130⟩) hHeld ?restu130
          case hiu130 => simp only [List.getElem?_toArray, List.getElem?_cons_zero, List.getElem?_cons_succ]; rfl
          case hwu130 => rfl
          case hyu130 => (intro w9 hSw; (try dsimp only at hSw); go_simp; (try with_reducible rfl))
          case hQu130 => exact fun _ _ _ h => h
          (try simp only [Act.put, List.setIfInBounds_toArray, List.set_cons_zero, List.set_cons_succ])
          refine wpAnyH_take (i := 29) (oi := ?_) (v := ?_) ?hiu131 (by as_aux_lemma => kernel_rfl) (by as_aux_lemma => kernel_rfl) (by as_aux_lemma => kernel_rfl) ?hQu131 (Or.inl ⟨?hwu131, ?hyu131⟩) hHeld ?restu131
          case hiu131 => simp only [List.getElem?_toArray, List.getElem?_cons_zero, List.getElem?_cons_succ]; rfl
          case hwu131 => rfl
          case hyu131 => (intro w9 hSw; (try dsimp only at hSw); go_simp; (try with_reducible rfl))
          case hQu131 => exact fun _ _ _ h => h
          (try simp only [Act.put, List.setIfInBounds_toArray, List.set_cons_zero, List.set_cons_succ])
          refine wpAnyH_take (i := 30) (oi := ?_) (v := ?_) ?hiu132 (by as_aux_lemma => kernel_rfl) (by as_aux_lemma => kernel_rfl) (by as_aux_lemma => kernel_rfl) ?hQu132 (Or.inl ⟨?hwu132, ?hyu132⟩) hHeld ?restu132
          case hiu132 => simp only [List.getElem?_toArray, List.getElem?_cons_zero, List.getElem?_cons_succ]; rfl
          case hwu132 => rfl
          case hyu132 => (intro w9 hSw; (try dsimp only at hSw); go_simp; (try with_reducible rfl))
          case hQu132 => exact fun _ _ _ h => h
          (try simp only [Act.put, List.setIfInBounds_toArray, List.set_cons_zero, List.set_cons_succ])
          refine wpAnyH_take (i := 31) (oi := ?_) (v := ?_) ?hiu133 (by as_aux_lemma => kernel_rfl) (by as_aux_lemma => kernel_rfl) (by as_aux_lemma => kernel_rfl) ?hQu133 (Or.inl ⟨?hwu133, ?hyu133⟩) hHeld ?restu133
          case hiu133 => simp only [List.getElem?_toArray, List.getElem?_cons_zero, List.getElem?_cons_succ]; rfl
          case hwu133 => rfl
          case hyu133 => (intro w9 hSw; (try dsimp only at hSw); go_simp; (try with_reducible rfl))
          case hQu133 => exact fun _ _ _ h => h
          (try simp only [Act.put, List.setIfInBounds_toArray, List.set_cons_zero, List.set_cons_succ])
          refine wpAnyH_take (i := 32) (oi := ?_) (v := ?_) ?hiu134 (by as_aux_lemma => kernel_rfl) (by as_aux_lemma => kernel_rfl) (by as_aux_lemma => kernel_rfl) ?hQu134 (Or.inl ⟨?hwu134, ?hyu134⟩) hHeld ?restu134
          case hiu134 => simp only [List.getElem?_toArray, List.getElem?_cons_zero, List.getElem?_cons_succ]; rfl
          case hwu134 => rfl
          case hyu134 => (intro w9 hSw; (try dsimp only at hSw); go_simp; (try with_reducible rfl))
          case hQu134 => exact fun _ _ _ h => h
          (try simp only [Act.put, List.setIfInBounds_toArray, List.set_cons_zero, List.set_cons_succ])
          refine wpAnyH_take (i := 33) (oi := ?_) (v := ?_) ?hiu135 (by as_aux_lemma => kernel_rfl) (by as_aux_lemma => kernel_rfl) (by as_aux_lemma => kernel_rfl) ?hQu135 (Or.inl ⟨?hwu135, ?hyu135⟩) hHeld ?restu135
          case hiu135 => simp only [List.getElem?_toArray, List.getElem?_cons_zero, List.getElem?_cons_succ]; rfl
          case hwu135 => rfl
          case hyu135 => (intro w9 hSw; (try dsimp only at hSw); go_simp; (try with_reducible rfl))
          case hQu135 => exact fun _ _ _ h => h
          (try simp only [Act.put, List.setIfInBounds_toArray, List.set_cons_zero, List.set_cons_succ])
          refine wpAnyH_take (i := 34) (oi := ?_) (v := ?_) ?hiu136 (by as_aux_lemma => kernel_rfl) (by as_aux_lemma => kernel_rfl) (by as_aux_lemma => kernel_rfl) ?hQu136 (Or.inl ⟨?hwu136, ?hyu136⟩) hHeld ?restu136
          case hiu136 => simp only [List.getElem?_toArray, List.getElem?_cons_zero, List.getElem?_cons_succ]; rfl
          case hwu136 => rfl
          case hyu136 => (intro w9 hSw; (try dsimp only at hSw); go_simp; (try with_reducible rfl))
          case hQu136 => exact fun _ _ _ h => h
          (try simp only [Act.put, List.setIfInBounds_toArray, List.set_cons_zero, List.set_cons_succ])
          refine wpAnyH_take (i := 35) (oi := ?_) (v := ?_) ?hiu137 (by as_aux_lemma => kernel_rfl) (by as_aux_lemma => kernel_rfl) (by as_aux_lemma => kernel_rfl) ?hQu137 (Or.inl ⟨?hwu137, ?hyu137⟩) hHeld ?restu137
          case hiu137 => simp only [List.getElem?_toArray, List.getElem?_cons_zero, List.getElem?_cons_succ]; rfl
          case hwu137 => rfl
          case hyu137 => (intro w9 hSw; (try dsimp only at hSw); go_simp; (try with_reducible rfl))
          case hQu137 => exact fun _ _ _ h => h
          (try simp only [Act.put, List.setIfInBounds_toArray, List.set_cons_zero, List.set_cons_succ])
          refine wpAnyH_ready (rs := [25]) (by as_aux_lemma => kernel_rfl) (by simp) (AllReadyH.cons (o := ?_) ?hiu138 (fun K hK => ?_) AllReadyH.nil)
          case hiu138 => simp only [List.getElem?_toArray, List.getElem?_cons_zero, List.getElem?_cons_succ]; rfl
          (try rw [if_pos (by rfl)])
          go_wp2_with fail
          refine (ledFull_any gx bx room S2 _ (HX5.out.below hHeld.1 (Nat.le_refl _))).mono ?_
          rintro e w6 ⟨rfl, hb6⟩
          dsimp only
          refine hK.out _ _ ?_ (fun hHeld => ?_)
          · exact hS _ (bT hHeld.1 hb6)
          clear hK K
          (try simp only [Act.put, List.setIfInBounds_toArray, List.set_cons_zero, List.set_cons_succ])
          refine wpAnyH_take (i := 36) (oi := ?_) (v := ?_) ?hiu139 (by as_aux_lemma => kernel_rfl) (by as_aux_lemma => kernel_rfl) (by as_aux_lemma => kernel_rfl) ?hQu139 (Or.inl ⟨?hwu139, ?hyu139⟩) hHeld ?restu139
          case hiu139 => simp only [List.getElem?_toArray, List.getElem?_cons_zero, List.getElem?_cons_succ]; rfl
          case hwu139 => rfl
          case hyu139 => (intro w9 hSw; (try dsimp only at hSw); go_simp; (try with_reducible rfl))
          case hQu139 => exact fun _ _ _ h => h
          (try simp only [Act.put, List.setIfInBounds_toArray, List.set_cons_zero, List.set_cons_succ])
          refine wpAnyH_take (i := 37) (oi := ?_) (v := ?_) ?hiu140 (by as_aux_lemma => kernel_rfl) (by as_aux_lemma => kernel_rfl) (by as_aux_lemma => kernel_rfl) ?hQu140 (Or.inl ⟨?hwu140, ?hyu140⟩) hHeld ?restu140
          case hiu140 => simp only [List.getElem?_toArray, List.getElem?_cons_zero, List.getElem?_cons_succ]; rfl
          case hwu140 => rfl
          case hyu140 => (intro w9 hSw; (try dsimp only at hSw); go_simp; (try with_reducible rfl))
          case hQu140 => exact fun _ _ _ h => h
          (try simp only [Act.put, List.setIfInBounds_toArray, List.set_cons_zero, List.set_cons_succ])
          refine wpAnyH_take (i := 38) (oi := ?_) (v := ?_) ?hiu141 (by as_aux_lemma => kernel_rfl) (by as_aux_lemma => kernel_rfl) (by as_aux_lemma => kernel_rfl) ?hQu141 (Or.inl ⟨?hwu141, ?hyu141⟩) hHeld ?restu141
          case hiu141 => simp only [List.getElem?_toArray, List.getElem?_cons_zero, List.getElem?_cons_succ]; rfl
          case hwu141 => rfl
          case hyu141 => (intro w9 hSw; (try dsimp only at hSw); go_simp; (try with_reducible rfl))
          case hQu141 => exact fun _ _ _ h => h
          (try simp only [Act.put, List.setIfInBounds_toArray, List.set_cons_zero, List.set_cons_succ])
          refine wpAnyH_take (i := 39) (oi := ?_) (v := ?_) ?hiu142 (by as_aux_lemma => kernel_rfl) (by as_aux_lemma => kernel_rfl) (by as_aux_lemma => kernel_rfl) ?hQu142 (Or.inl ⟨?hwu142, ?hyu142⟩) hHeld ?restu142
          case hiu142 => simp only [List.getElem?_toArray, List.getElem?_cons_zero, List.getElem?_cons_succ]; rfl
          case hwu142 => rfl
          case hyu142 => (intro w9 hSw; (try dsimp only at hSw); go_simp; (try with_reducible rfl))
          case hQu142 => exact fun _ _ _ h => h
          (try simp only [Act.put, List.setIfInBounds_toArray, List.set_cons_zero, List.set_cons_succ])
          refine wpAnyH_take (i := 40) (oi := ?_) (v := ?_) ?hiu143 (by as_aux_lemma => kernel_rfl) (by as_aux_lemma => kernel_rfl) (by as_aux_lemma => kernel_rfl) ?hQu143 (Or.inl ⟨?hwu143, ?hyu143⟩) hHeld ?restu143
          case hiu143 => simp only [List.getElem?_toArray, List.getElem?_cons_zero, List.getElem?_cons_succ]; rfl
          case hwu143 => rfl
          case hyu143 => (intro w9 hSw; (try dsimp only at hSw); go_simp; (try with_reducible rfl))
          case hQu143 => exact fun _ _ _ h => h
          (try simp only [Act.put, List.setIfInBounds_toArray, List.set_cons_zero, List.set_cons_succ])
          refine wpAnyH_take (i := 41) (oi := ?_) (v := ?_) ?hiu144 (by as_aux_lemma => kernel_rfl) (by as_aux_lemma => kernel_rfl) (by as_aux_lemma => kernel_rfl) ?hQu144 (Or.inl ⟨?hwu144, ?hyu144⟩) hHeld ?restu144
          case hiu144 => simp only [List.getElem?_toArray, List.getElem?_cons_zero, List.getElem?_cons_succ]; rfl
          case hwu144 => rfl
          case hyu144 => (intro w9 hSw; (try dsimp only at hSw); go_simp; (try with_reducible rfl))
          case hQu144 => exact fun _ _ _ h => h
          (try simp only [Act.put, List.setIfInBounds_toArray, List.set_cons_zero, List.set_cons_succ])
          refine wpAnyH_take (i := 42) (oi := ?_) (v := ?_) ?hiu145 (by as_aux_lemma => kernel_rfl) (by as_aux_lemma => kernel_rfl) (by as_aux_lemma => kernel_rfl) ?hQu145 (Or.inl ⟨?hwu145, ?hyu145⟩) hHeld ?restu145
          case hiu145 => simp only [List.getElem?_toArray, List.getElem?_cons_zero, List.getElem?_cons_succ]; rfl
          case hwu145 => rfl
          case hyu145 => (intro w9 hSw; (try dsimp only at hSw); go_simp; (try with_reducible rfl))
          case hQu145 => exact fun _ _ _ h => h
          (try simp only [Act.put, List.setIfInBounds_toArray, List.set_cons_zero, List.set_cons_succ])
          refine wpAnyH_take (i := 44) (oi := ?_) (v := ?_) ?hiu146 (by as_aux_lemma => kernel_rfl) (by as_aux_lemma => kernel_rfl) (by as_aux_lemma => kernel_rfl) ?hQu146 (Or.inl ⟨?hwu146, ?hyu146⟩) hHeld ?restu146
          case hiu146 => simp only [List.getElem?_toArray, List.getElem?_cons_zero, List.getElem?_cons_succ]; rfl
          case hwu146 => rfl
          case hyu146 => (intro w9 hSw; (try dsimp only at hSw); go_simp; (try with_reducible rfl))
          case hQu146 => exact fun _ _ _ h => h
          (try simp only [Act.put, List.setIfInBounds_toArray, List.set_cons_zero, List.set_cons_succ])
          refine wpAnyH_take (i := 45) (oi := ?_) (v := ?_) ?hiu147 (by as_aux_lemma => kernel_rfl) (by as_aux_lemma => kernel_rfl) (by as_aux_lemma => kernel_rfl) ?hQu147 (Or.inl ⟨?hwu147, ?hyu147⟩) hHeld ?restu147
          case hiu147 => simp only [List.getElem?_toArray, List.getElem?_cons_zero, List.getElem?_cons_succ]; rfl
          case hwu147 => rfl
          case hyu147 => (intro w9 hSw; (try dsimp only at hSw); go_simp; (try with_reducible rfl))
          case hQu147 => exact fun _ _ _ h => h
          (try simp only [Act.put, List.setIfInBounds_toArray, List.set_cons_zero, List.set_cons_succ])
          refine wpAnyH_take (i := 46) (oi := ?_) (v := ?_) ?hiu148 (by as_aux_lemma => kernel_rfl) (by as_aux_lemma => kernel_rfl) (by as_aux_lemma => kernel_rfl) ?hQu148 (Or.inl ⟨?hwu148, ?hyu148⟩) hHeld ?restu148
          case hiu148 => simp only [List.getElem?_toArray, List.getElem?_cons_zero, List.getElem?_cons_succ]; rfl
          case hwu148 => rfl
          case hyu148 => (intro w9 hSw; (try dsimp only at hSw); go_simp; (try with_reducible rfl))
          case hQu148 => exact fun _ _ _ h => h
          (try simp only [Act.put, List.setIfInBounds_toArray, List.set_cons_zero, List.set_cons_succ])
          refine wpAnyH_take (i := 47) (oi := ?_) (v := ?_) ?hiu149 (by as_aux_lemma => kernel_rfl) (by as_aux_lemma => kernel_rfl) (by as_aux_lemma => kernel_rfl) ?hQu149 (Or.inl ⟨?hwu149, ?hyu149⟩) hHeld ?restu149
          case hiu149 => simp only [List.getElem?_toArray, List.getElem?_cons_zero, List.getElem?_cons_succ]; rfl
          case hwu149 => rfl
          case hyu149 => (intro w9 hSw; (try dsimp only at hSw); go_simp; (try with_reducible rfl))
          case hQu149 => exact fun _ _ _ h => h
          (try simp only [Act.put, List.setIfInBounds_toArray, List.set_cons_zero, List.set_cons_succ])
          refine wpAnyH_ready (rs := [43]) (by as_aux_lemma => kernel_rfl) (by simp) (AllReadyH.cons (o := ?_) ?hiu150 (fun K hK => ?_) AllReadyH.nil)
          case hiu150 => simp only [List.getElem?_toArray, List.getElem?_cons_zero, List.getElem?_cons_succ]; rfl
          (try rw [if_pos (by rfl)])
          go_wp2_with fail
          refine (ledIs_any e _).mono ?_
          rintro e w6 ⟨rfl, hb6⟩
          dsimp only
          refine hK.out _ _ ?_ (fun hHeld => ?_)
          · exact hS _ (bT hHeld.1 hb6)
          clear hK K
          (try simp only [Act.put, List.setIfInBounds_toArray, List.set_cons_zero, List.set_cons_succ])
          refine wpAnyH_ready (rs := [48]) (by as_aux_lemma => kernel_rfl) (by simp) (AllReadyH.cons (o := ?_) ?hiu151 (fun K hK => ?_) AllReadyH.nil)
          case hiu151 => simp only [List.getElem?_toArray, List.getElem?_cons_zero, List.getElem?_cons_succ]; rfl
          (try rw [if_pos (by rfl)])
          go_wp2_with fail
          refine (rledIs_any e _).mono ?_
          rintro e w6 ⟨rfl, hb6⟩
          dsimp only
          refine hK.out _ _ ?_ (fun hHeld => ?_)
          · exact hS _ (bT hHeld.1 hb6)
          clear hK K
          (try simp only [Act.put, List.setIfInBounds_toArray, List.set_cons_zero, List.set_cons_succ])
          refine wpAnyH_take (i := 49) (oi := ?_) (v := ?_) ?hiu152 (by as_aux_lemma => kernel_rfl) (by as_aux_lemma => kernel_rfl) (by as_aux_lemma => kernel_rfl) ?hQu152 (Or.inl ⟨?hwu152, ?hyu152⟩) hHeld ?restu152
          case hiu152 => simp only [List.getElem?_toArray, List.getElem?_cons_zero, List.getElem?_cons_succ]; rfl
          case hwu152 => rfl
          case hyu152 => (intro w9 hSw; (try dsimp only at hSw); go_simp; (try with_reducible rfl))
          case hQu152 => exact fun _ _ _ h => h
          (try simp only [Act.put, List.setIfInBounds_toArray, List.set_cons_zero, List.set_cons_succ])
          refine wpAnyH_take (i := 50) (oi := ?_) (v := ?_) ?hiu153 (by as_aux_lemma => kernel_rfl) (by as_aux_lemma => kernel_rfl) (by as_aux_lemma => kernel_rfl) ?hQu153 (Or.inl ⟨?hwu153, ?hyu153⟩) hHeld ?restu153
          case hiu153 => simp only [List.getElem?_toArray, List.getElem?_cons_zero, List.getElem?_cons_succ]; rfl
          case hwu153 => rfl
          case hyu153 => (intro w9 hSw; (try dsimp only at hSw); go_simp; (try with_reducible rfl))
          case hQu153 => exact fun _ _ _ h => h
          (try simp only [Act.put, List.setIfInBounds_toArray, List.set_cons_zero, List.set_cons_succ])
          refine wpAnyH_done (by as_aux_lemma => kernel_rfl) ?_ _
          have HX7 := Lib.hid (HX5.out.below hHeld.1 (Nat.le_refl _))
          have HM7 := Lib.hid (HM5.out.below hHeld.1 (Nat.le_refl _))
          have HB7 := Lib.hid (bT HB5.out hHeld.1)
          clear hHeld hS
          go_wp2
          go_roundw
          case rel => exact ⟨k + 1, S2, by omega, by go_num, HX7, HM7, HB7⟩
          case measure => simp [intOf]; omega
    · obtain ⟨A2, c2, m1, m2, m3, m4, m5, m6, m7⟩ := HM.out
      have HC1 := Lib.hid ((cell_of_row _ gm 1 _ _ _ m1).trans (show _ = some (.slice A2 S.length c2) from rfl))
      have HRE := Lib.hid m2
      clear m1 m2 m3 m4 m5 m6 m7
      go_wp2
      as_aux_lemma =>
        have hS := fun w9 (h : Below wr.heap.size wr w9) => And.intro h ((h.cell (p := ⟨gm, 1, none⟩) HM.out.lt).trans HC1.out)
        refine wp_region_held_drew (S := fun w9 => Below wr.heap.size wr w9 ∧ w9.cell? ⟨gm, 1, none⟩ = some (.slice A2 S.length c2)) (by kernel_rfl) (hS _ (bD (bR wr))) (fun hHeld => ?_)
        refine wpAnyH_ready (rs := [0]) (by as_aux_lemma => kernel_rfl) (by simp) (AllReadyH.cons (o := ?_) ?hiu154 (fun K hK => ?_) AllReadyH.nil)
        case hiu154 => simp only [List.getElem?_toArray, List.getElem?_cons_zero, List.getElem?_cons_succ]; rfl
        (try rw [if_pos (by rfl)])
        go_wp2_with fail
        refine (hk _).mono ?_
        rintro e w5 ⟨rfl, hb5⟩
        dsimp only
        refine hK.out _ _ ?_ (fun hHeld => ?_)
        · exact hS _ (bT hHeld.1 hb5)
        clear hK K
        (try simp only [Act.put, List.setIfInBounds_toArray, List.set_cons_zero, List.set_cons_succ])
        refine wpAnyH_take (i := 1) (oi := ?_) (v := ?_) ?hiu155 (by as_aux_lemma => kernel_rfl) (by as_aux_lemma => kernel_rfl) (by as_aux_lemma => kernel_rfl) ?hQu155 (Or.inl ⟨?hwu155, ?hyu155⟩) hHeld ?restu155
        case hiu155 => simp only [List.getElem?_toArray, List.getElem?_cons_zero, List.getElem?_cons_succ]; rfl
        case hwu155 => rfl
        case hyu155 => (intro w9 hSw; (try dsimp only at hSw); go_simp; (try with_reducible rfl))
        case hQu155 => exact fun _ _ _ h => h
        (try simp only [Act.put, List.setIfInBounds_toArray, List.set_cons_zero, List.set_cons_succ])
        refine wpAnyH_take (i := 2) (oi := ?_) (v := ?_) ?hiu156 (by as_aux_lemma => kernel_rfl) (by as_aux_lemma => kernel_rfl) (by as_aux_lemma => kernel_rfl) ?hQu156 (Or.inl ⟨?hwu156, ?hyu156⟩) hHeld ?restu156
        case hiu156 => simp only [List.getElem?_toArray, List.getElem?_cons_zero, List.getElem?_cons_succ]; rfl
        case hwu156 => rfl
        case hyu156 => (intro w9 hSw; (try dsimp only at hSw); go_simp; (try with_reducible rfl))
        case hQu156 => exact fun _ _ _ h => h
        (try simp only [Act.put, List.setIfInBounds_toArray, List.set_cons_zero, List.set_cons_succ])
        refine wpAnyH_take (i := 3) (oi := ?_) (v := ?_) ?hiu157 (by as_aux_lemma => kernel_rfl) (by as_aux_lemma => kernel_rfl) (by as_aux_lemma => kernel_rfl) ?hQu157 (Or.inl ⟨?hwu157, ?hyu157⟩) hHeld ?restu157
        case hiu157 => simp only [List.getElem?_toArray, List.getElem?_cons_zero, List.getElem?_cons_succ]; rfl
        case hwu157 => rfl
        case hyu157 => (intro w9 hSw; (try dsimp only at hSw); go_simp; (try with_reducible rfl))
        case hQu157 => exact fun _ _ _ h => h
        (try simp only [Act.put, List.setIfInBounds_toArray, List.set_cons_zero, List.set_cons_succ])
        refine wpAnyH_take (i := 4) (oi := ?_) (v := ?_) ?hiu158 (by as_aux_lemma => kernel_rfl) (by as_aux_lemma => kernel_rfl) (by as_aux_lemma => kernel_rfl) ?hQu158 (Or.inl ⟨?hwu158, ?hyu158⟩) hHeld ?restu158
        case hiu158 => simp only [List.getElem?_toArray, List.getElem?_cons_zero, List.getElem?_cons_succ]; rfl
        case hwu158 => rfl
        case hyu158 => (intro w9 hSw; (try dsimp only at hSw); go_simp; (try with_reducible rfl))
        case hQu158 => exact fun _ _ _ h => h
        (try simp only [Act.put, List.setIfInBounds_toArray, List.set_cons_zero, List.set_cons_succ])
        refine wpAnyH_take (i := 5) (oi := ?_) (v := ?_) ?hiu159 (by as_aux_lemma => kernel_rfl) (by as_aux_lemma => kernel_rfl) (by as_aux_lemma => kernel_rfl) ?hQu159 (Or.inl ⟨?hwu159, ?hyu159⟩) hHeld ?restu159
        case hiu159 => simp only [List.getElem?_toArray, List.getElem?_cons_zero, List.getElem?_cons_succ]; rfl
        case hwu159 => rfl
        case hyu159 => (intro w9 hSw; (try dsimp only at hSw); go_simp; (try with_reducible rfl))
        case hQu159 => exact fun _ _ _ h => h
        (try simp only [Act.put, List.setIfInBounds_toArray, List.set_cons_zero, List.set_cons_succ])
        refine wpAnyH_take (i := 7) (oi := ?_) (v := ?_) ?hiu160 (by as_aux_lemma => kernel_rfl) (by as_aux_lemma => kernel_rfl) (by as_aux_lemma => kernel_rfl) ?hQu160 (Or.inl ⟨?hwu160, ?hyu160⟩) hHeld ?restu160
        case hiu160 => simp only [List.getElem?_toArray, List.getElem?_cons_zero, List.getElem?_cons_succ]; rfl
        case hwu160 => rfl
        case hyu160 => (intro w9 hSw; (try dsimp only at hSw); go_simp; (try with_reducible rfl))
        case hQu160 => exact fun _ _ _ h => h
        (try simp only [Act.put, List.setIfInBounds_toArray, List.set_cons_zero, List.set_cons_succ])
        refine wpAnyH_take (i := 8) (oi := ?_) (v := ?_) ?hiu161 (by as_aux_lemma => kernel_rfl) (by as_aux_lemma => kernel_rfl) (by as_aux_lemma => kernel_rfl) ?hQu161 (Or.inl ⟨?hwu161, ?hyu161⟩) hHeld ?restu161
        case hiu161 => simp only [List.getElem?_toArray, List.getElem?_cons_zero, List.getElem?_cons_succ]; rfl
        case hwu161 => rfl
        case hyu161 => (intro w9 hSw; (try dsimp only at hSw); go_simp; (try with_reducible rfl))
        case hQu161 => exact fun _ _ _ h => h
        (try simp only [Act.put, List.setIfInBounds_toArray, List.set_cons_zero, List.set_cons_succ])
        refine wpAnyH_take (i := 9) (oi := ?_) (v := ?_) ?hiu162 (by as_aux_lemma => kernel_rfl) (by as_aux_lemma => kernel_rfl) (by as_aux_lemma => kernel_rfl) ?hQu162 (Or.inl ⟨?hwu162, ?hyu162⟩) hHeld ?restu162
        case hiu162 => simp only [List.getElem?_toArray, List.getElem?_cons_zero, List.getElem?_cons_succ]; rfl
        case hwu162 => rfl
        case hyu162 => (intro w9 hSw; (try dsimp only at hSw); go_simp; (try with_reducible rfl))
        case hQu162 => exact fun _ _ _ h => h
        (try simp only [Act.put, List.setIfInBounds_toArray, List.set_cons_zero, List.set_cons_succ])
        refine wpAnyH_take (i := 10) (oi := ?_) (v := ?_) ?hiu163 (by as_aux_lemma => kernel_rfl) (by as_aux_lemma => kernel_rfl) (by as_aux_lemma => kernel_rfl) ?hQu163 (Or.inl ⟨?hwu163, ?hyu163⟩) hHeld ?restu163
        case hiu163 => simp only [List.getElem?_toArray, List.getElem?_cons_zero, List.getElem?_cons_succ]; rfl
        case hwu163 => rfl
        case hyu163 => (intro w9 hSw; (try dsimp only at hSw); go_simp; (try with_reducible rfl))
        case hQu163 => exact fun _ _ _ h => h
        (try simp only [Act.put, List.setIfInBounds_toArray, List.set_cons_zero, List.set_cons_succ])
        refine wpAnyH_ready (rs := [6]) (by as_aux_lemma => kernel_rfl) (by simp) (AllReadyH.cons (o := ?_) ?hiu164 (fun K hK => ?_) AllReadyH.nil)
        case hiu164 => simp only [List.getElem?_toArray, List.getElem?_cons_zero, List.getElem?_cons_succ]; rfl
        (try rw [if_pos (by rfl)])
        go_wp2_with fail
        refine (ledAll_any gx bx room S _ (HX.out.below hHeld.1 (Nat.le_refl _))).mono ?_
        rintro e w6 ⟨A1, c1, rfl, q1, q2, q3, hb6, q5⟩
        dsimp only
        refine hK.out _ _ ?_ (fun hHeld => ?_)
        · exact hS _ (bT hHeld.1 hb6)
        clear hK K
        (try simp only [Act.put, List.setIfInBounds_toArray, List.set_cons_zero, List.set_cons_succ])
        have hR1 := q3
        refine wpAnyH_ready (rs := [11]) (by as_aux_lemma => kernel_rfl) (by simp) (AllReadyH.cons (o := ?_) ?hiu165 (fun K hK => ?_) AllReadyH.nil)
        case hiu165 => simp only [List.getElem?_toArray, List.getElem?_cons_zero, List.getElem?_cons_succ]; rfl
        (try rw [if_pos (by rfl)])
        go_wp2_with fail
        refine (refSame_any A1 A2 c1 c2 S _ hR1 (HRE.out.rd.below hHeld.1 (Nat.le_refl _)) (by omega)).mono ?_
        rintro e w7 ⟨rfl, hb7⟩
        dsimp only
        refine hK.out _ _ ?_ (fun hHeld => ?_)
        · exact hS _ (bT hHeld.1 hb7)
        clear hK K
        (try simp only [Act.put, List.setIfInBounds_toArray, List.set_cons_zero, List.set_cons_succ])
        refine wpAnyH_take (i := 12) (oi := ?_) (v := ?_) ?hiu166 (by as_aux_lemma => kernel_rfl) (by as_aux_lemma => kernel_rfl) (by as_aux_lemma => kernel_rfl) ?hQu166 (Or.inl ⟨?hwu166, ?hyu166⟩) hHeld ?restu166
        case hiu166 => simp only [List.getElem?_toArray, List.getElem?_cons_zero, List.getElem?_cons_succ]; rfl
        case hwu166 => rfl
        case hyu166 => (intro w9 hSw; (try dsimp only at hSw); go_simp; (try with_reducible rfl))
        case hQu166 => exact fun _ _ _ h => h
        (try simp only [Act.put, List.setIfInBounds_toArray, List.set_cons_zero, List.set_cons_succ])
        refine wpAnyH_take (i := 13) (oi := ?_) (v := ?_) ?hiu167 (by as_aux_lemma => kernel_rfl) (by as_aux_lemma => kernel_rfl) (by as_aux_lemma => kernel_rfl) ?hQu167 (Or.inl ⟨?hwu167, ?hyu167⟩) hHeld ?restu167
        case hiu167 => simp only [List.getElem?_toArray, List.getElem?_cons_zero, List.getElem?_cons_succ]; rfl
        case hwu167 => rfl
        case hyu167 => (intro w9 hSw; (try dsimp only at hSw); go_simp; (try with_reducible rfl))
        case hQu167 => exact fun _ _ _ h => h
        (try simp only [Act.put, List.setIfInBounds_toArray, List.set_cons_zero, List.set_cons_succ])
        refine wpAnyH_take (i := 14) (oi := ?_) (v := ?_) ?hiu168 (by as_aux_lemma => kernel_rfl) (by as_aux_lemma => kernel_rfl) (by as_aux_lemma => kernel_rfl) ?hQu168 (Or.inl ⟨?hwu168, ?hyu168⟩) hHeld ?restu168
        case hiu168 => simp only [List.getElem?_toArray, List.getElem?_cons_zero, List.getElem?_cons_succ]; rfl
        case hwu168 => rfl
        case hyu168 => (intro w9 hSw; (try dsimp only at hSw); go_simp; (try with_reducible rfl))
        case hQu168 => exact fun _ _ _ h => h
        (try simp only [Act.put, List.setIfInBounds_toArray, List.set_cons_zero, List.set_cons_succ])
        refine wpAnyH_done (by as_aux_lemma => kernel_rfl) ?_ _
        have HB7 := Lib.hid (bT HB.out hHeld.1)
        clear hHeld hS
        go_wp2
        go_ret
        exact ⟨by simp, HB7.out⟩
end Go.Proofs.Ytpmfmkkifkpdcaa

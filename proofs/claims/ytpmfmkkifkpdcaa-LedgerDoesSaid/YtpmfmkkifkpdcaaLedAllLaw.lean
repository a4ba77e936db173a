/- Layer 24's law LedgerAll, walked: all entries are told, by rising serials, all right. No condition beyond the example's. -/
import Derived.Test.YtpmfmkkifkpdcaaLedSame
namespace Go.Proofs.Ytpmfmkkifkpdcaa
open Go.RowKit Go.Maps
set_option linter.unusedVariables false
set_option maxRecDepth 100000
set_option linter.unusedSimpArgs false

def adds (room : Int) (l : List En) : List En := l.foldl (fun S e => (addR room S e).1) []
theorem adds_take (room : Int) (l : List En) (k : Nat) (h : k < l.length) : adds room (l.take (k + 1)) = (addR room (adds room (l.take k)) l[k]).1 := by
  unfold adds
  rw [List.take_succ_eq_append_getElem h, List.foldl_append]; rfl
theorem adds_ok {room : Int} (h : 1 ≤ room) : ∀ l : List En, LedOk room (adds room l) := by
  intro l
  unfold adds
  have : ∀ (l : List En) (S : List En), LedOk room S → LedOk room (l.foldl (fun S e => (addR room S e).1) S) := by
    intro l
    induction l with
    | nil => exact fun S h => h
    | cons x r ih => exact fun S h => ih _ (addR_ok h x)
  exact this l [] ⟨List.Pairwise.nil, (fun e he => by cases he), (by simp; omega)⟩
/-- The example's contract. -/
def KeptSays : Prop := ∀ W : World, Calls Try.prog 23 #[] W fun r w' => r = .returned (.bool true) ∧ Below W.heap.size W w'

set_option maxHeartbeats 4000000 in
theorem ledgerAll_no (room : Int) (A : Option Addr) (c n : Nat) (w : World) (hk : KeptSays) (h : (room < 1 ∨ 64 < room) ∨ 200 < n) :
    Calls Try.prog 5 #[.int .i64 room, .slice A n c] w fun r w' => r = .returned (.bool true) ∧ Below w.heap.size w w' := by
  by_cases hr : room < 1 ∨ 64 < room
  · have HR := Lib.hid hr
    clear hr h
    cases h2 : decide ((200 : Int) < (n : Int))
    all_goals
      go_enter Try.func5, Try.ntmps5
      go_wp2_with (first
        | (go_at_call 11; (with_reducible refine (ledNewNo_any room _ HR.out).mono ?_); rintro r w1 ⟨rfl, rfl⟩)
        | (go_at_call 23; (refine (hk _).mono ?_); rintro r w9 ⟨rfl, hb9⟩))
      go_ret
      exact ⟨rfl, hb9⟩
  · have hr' : 1 ≤ room ∧ room ≤ 64 := by omega
    have h2 : decide ((200 : Int) < (n : Int)) = true := by simp; omega
    have HR := Lib.hid hr'
    clear hr hr' h
    go_enter Try.func5, Try.ntmps5
    go_wp2_with (first
      | (go_at_call 11; (with_reducible refine (ledNew_any room _ HR.out.1 HR.out.2).mono ?_); rintro r w1 ⟨rfl, _, hb1⟩)
      | (go_at_call 23; (refine (hk _).mono ?_); rintro r w9 ⟨rfl, hb9⟩))
    go_ret
    exact ⟨rfl, bT hb1 hb9⟩

theorem la_s1 {W0 : World} {p q : Addr} {by_ : Nat} {e : En} {f0 : Int} (HY : Hid (W0.heap[by_]? = some (.cells e.row.toArray 37 (0, 0)))) (HE : Hid (EnAt W0 p e)) (HP : Hid (W0.cell? q = some (.int .i64 f0))) {w9 : World} (h : Below W0.heap.size W0 w9) :
    Below W0.heap.size W0 w9 ∧ w9.cell? ⟨by_, 0, none⟩ = some (.int .i64 e.a0) ∧ w9.cell? ⟨by_, 1, none⟩ = some (.int .i64 e.a1) ∧ w9.cell? ⟨by_, 2, none⟩ = some (.int .i64 e.a2) ∧ w9.cell? ⟨by_, 3, none⟩ = some (.int .i64 e.a3) ∧ w9.cell? ⟨by_, 4, none⟩ = some (.int .i64 e.a4) ∧ w9.cell? ⟨by_, 5, none⟩ = some (.int .i64 e.a5) ∧ w9.cell? ⟨by_, 6, none⟩ = some (.int .i64 e.a6) ∧ w9.cell? ⟨by_, 7, none⟩ = some (.int .i64 e.a7) ∧ w9.cell? ⟨by_, 8, none⟩ = some (.int .i64 e.a8) ∧ w9.cell? ⟨by_, 9, none⟩ = some (.int .i64 e.a9) ∧ w9.cell? ⟨by_, 10, none⟩ = some (.int .i64 e.a10) ∧ w9.cell? ⟨by_, 11, none⟩ = some (.int .i64 e.l) ∧ w9.cell? ⟨by_, 12, none⟩ = some (.int .i64 e.i) ∧ w9.cell? ⟨by_, 13, none⟩ = some (.bool e.bk) ∧ w9.cell? p = some (.int .i64 e.a0) ∧ w9.cell? ⟨(p).block, (p).off + 1, none⟩ = some (.int .i64 e.a1) ∧ w9.cell? ⟨(p).block, (p).off + 2, none⟩ = some (.int .i64 e.a2) ∧ w9.cell? ⟨(p).block, (p).off + 3, none⟩ = some (.int .i64 e.a3) ∧ w9.cell? ⟨(p).block, (p).off + 4, none⟩ = some (.int .i64 e.a4) ∧ w9.cell? ⟨(p).block, (p).off + 5, none⟩ = some (.int .i64 e.a5) ∧ w9.cell? ⟨(p).block, (p).off + 6, none⟩ = some (.int .i64 e.a6) ∧ w9.cell? ⟨(p).block, (p).off + 7, none⟩ = some (.int .i64 e.a7) ∧ w9.cell? ⟨(p).block, (p).off + 8, none⟩ = some (.int .i64 e.a8) ∧ w9.cell? ⟨(p).block, (p).off + 9, none⟩ = some (.int .i64 e.a9) ∧ w9.cell? ⟨(p).block, (p).off + 10, none⟩ = some (.int .i64 e.a10) ∧ w9.cell? ⟨(p).block, (p).off + 11, none⟩ = some (.int .i64 e.l) ∧ w9.cell? ⟨(p).block, (p).off + 12, none⟩ = some (.int .i64 e.i) ∧ w9.cell? ⟨(p).block, (p).off + 13, none⟩ = some (.bool e.bk) ∧ w9.cell? q = some (.int .i64 f0) := by
  have hy := (h.block by_ (Array.getElem?_eq_some_iff.1 HY.out).1).trans HY.out
  have he := HE.out.below h (Nat.le_refl _)
  have hq := (h.cell (World.block_lt_of_cell? W0 _ HP.out)).trans HP.out
  exact ⟨h, (cell_of_row _ _ 0 _ _ _ hy).trans rfl, (cell_of_row _ _ 1 _ _ _ hy).trans rfl, (cell_of_row _ _ 2 _ _ _ hy).trans rfl, (cell_of_row _ _ 3 _ _ _ hy).trans rfl, (cell_of_row _ _ 4 _ _ _ hy).trans rfl, (cell_of_row _ _ 5 _ _ _ hy).trans rfl, (cell_of_row _ _ 6 _ _ _ hy).trans rfl, (cell_of_row _ _ 7 _ _ _ hy).trans rfl, (cell_of_row _ _ 8 _ _ _ hy).trans rfl, (cell_of_row _ _ 9 _ _ _ hy).trans rfl, (cell_of_row _ _ 10 _ _ _ hy).trans rfl, (cell_of_row _ _ 11 _ _ _ hy).trans rfl, (cell_of_row _ _ 12 _ _ _ hy).trans rfl, (cell_of_row _ _ 13 _ _ _ hy).trans rfl, he.1, he.2 0 _ rfl, he.2 1 _ rfl, he.2 2 _ rfl, he.2 3 _ rfl, he.2 4 _ rfl, he.2 5 _ rfl, he.2 6 _ rfl, he.2 7 _ rfl, he.2 8 _ rfl, he.2 9 _ rfl, he.2 10 _ rfl, he.2 11 _ rfl, he.2 12 _ rfl, hq⟩
theorem la_s0 {W0 : World} {p q : Addr} {by_ : Nat} {e : En} {f0 : Int} (HY : Hid (W0.heap[by_]? = some (.cells e.row.toArray 37 (0, 0)))) (HE : Hid (EnAt W0 p e)) (HP : Hid (W0.cell? q = some (.int .i64 f0))) {w9 : World} (h : Below W0.heap.size W0 w9) :
    Below W0.heap.size W0 w9 ∧ w9.cell? ⟨by_, 0, none⟩ = some (.int .i64 e.a0) ∧ w9.cell? ⟨by_, 1, none⟩ = some (.int .i64 e.a1) ∧ w9.cell? ⟨by_, 2, none⟩ = some (.int .i64 e.a2) ∧ w9.cell? ⟨by_, 3, none⟩ = some (.int .i64 e.a3) ∧ w9.cell? ⟨by_, 4, none⟩ = some (.int .i64 e.a4) ∧ w9.cell? ⟨by_, 5, none⟩ = some (.int .i64 e.a5) ∧ w9.cell? ⟨by_, 6, none⟩ = some (.int .i64 e.a6) ∧ w9.cell? ⟨by_, 7, none⟩ = some (.int .i64 e.a7) ∧ w9.cell? ⟨by_, 8, none⟩ = some (.int .i64 e.a8) ∧ w9.cell? ⟨by_, 9, none⟩ = some (.int .i64 e.a9) ∧ w9.cell? ⟨by_, 10, none⟩ = some (.int .i64 e.a10) ∧ w9.cell? ⟨by_, 11, none⟩ = some (.int .i64 e.l) ∧ w9.cell? ⟨by_, 12, none⟩ = some (.int .i64 e.i) ∧ w9.cell? ⟨by_, 13, none⟩ = some (.bool e.bk) ∧ w9.cell? p = some (.int .i64 e.a0) ∧ w9.cell? ⟨(p).block, (p).off + 1, none⟩ = some (.int .i64 e.a1) ∧ w9.cell? ⟨(p).block, (p).off + 2, none⟩ = some (.int .i64 e.a2) ∧ w9.cell? ⟨(p).block, (p).off + 3, none⟩ = some (.int .i64 e.a3) ∧ w9.cell? ⟨(p).block, (p).off + 4, none⟩ = some (.int .i64 e.a4) ∧ w9.cell? ⟨(p).block, (p).off + 5, none⟩ = some (.int .i64 e.a5) ∧ w9.cell? ⟨(p).block, (p).off + 6, none⟩ = some (.int .i64 e.a6) ∧ w9.cell? ⟨(p).block, (p).off + 7, none⟩ = some (.int .i64 e.a7) ∧ w9.cell? ⟨(p).block, (p).off + 8, none⟩ = some (.int .i64 e.a8) ∧ w9.cell? ⟨(p).block, (p).off + 9, none⟩ = some (.int .i64 e.a9) ∧ w9.cell? ⟨(p).block, (p).off + 10, none⟩ = some (.int .i64 e.a10) ∧ w9.cell? ⟨(p).block, (p).off + 11, none⟩ = some (.int .i64 e.l) ∧ w9.cell? ⟨(p).block, (p).off + 12, none⟩ = some (.int .i64 e.i) ∧ w9.cell? ⟨(p).block, (p).off + 13, none⟩ = some (.bool e.bk) := by
  have hy := (h.block by_ (Array.getElem?_eq_some_iff.1 HY.out).1).trans HY.out
  have he := HE.out.below h (Nat.le_refl _)
  have hq := (h.cell (World.block_lt_of_cell? W0 _ HP.out)).trans HP.out
  exact ⟨h, (cell_of_row _ _ 0 _ _ _ hy).trans rfl, (cell_of_row _ _ 1 _ _ _ hy).trans rfl, (cell_of_row _ _ 2 _ _ _ hy).trans rfl, (cell_of_row _ _ 3 _ _ _ hy).trans rfl, (cell_of_row _ _ 4 _ _ _ hy).trans rfl, (cell_of_row _ _ 5 _ _ _ hy).trans rfl, (cell_of_row _ _ 6 _ _ _ hy).trans rfl, (cell_of_row _ _ 7 _ _ _ hy).trans rfl, (cell_of_row _ _ 8 _ _ _ hy).trans rfl, (cell_of_row _ _ 9 _ _ _ hy).trans rfl, (cell_of_row _ _ 10 _ _ _ hy).trans rfl, (cell_of_row _ _ 11 _ _ _ hy).trans rfl, (cell_of_row _ _ 12 _ _ _ hy).trans rfl, (cell_of_row _ _ 13 _ _ _ hy).trans rfl, he.1, he.2 0 _ rfl, he.2 1 _ rfl, he.2 2 _ rfl, he.2 3 _ rfl, he.2 4 _ rfl, he.2 5 _ rfl, he.2 6 _ rfl, he.2 7 _ rfl, he.2 8 _ rfl, he.2 9 _ rfl, he.2 10 _ rfl, he.2 11 _ rfl, he.2 12 _ rfl⟩

set_option maxHeartbeats 8000000 in
set_option maxRecDepth 100000 in
theorem ledgerAll_yes (room : Int) (A : Option Addr) (c : Nat) (l : List En) (w : World) (hk : KeptSays) (hr : RdE w A l) (hr1 : 1 ≤ room) (hr2 : room ≤ 64) (hl : l.length ≤ 200) :
    Calls Try.prog 5 #[.int .i64 room, .slice A l.length c] w fun r w' => r = .returned (.bool true) ∧ Below w.heap.size w w' := by
  have h2 : decide ((200 : Int) < (l.length : Int)) = false := by simp; omega
  have HA := Lib.hid hr
  clear hr
  go_enter Try.func5, Try.ntmps5
  go_wp2_with (go_at_call 11; (with_reducible refine (ledNew_any room _ hr1 hr2).mono ?_); rintro r w1 ⟨rfl, hL1, hb1⟩; have HL1 := Lib.hid hL1; have HB1 := Lib.hid hb1; clear hL1 hb1)
  go_loopw [7] (fun i wr => ∃ k : Nat, k ≤ l.length ∧ i = .int .i64 k ∧ Hid (Led wr (w.heap.size + 1) w.heap.size room (adds room (l.take k))) ∧ Hid (Below w.heap.size w wr)) (fun i _ => l.length - (intOf i).toNat)
  case atStart => exact ⟨0, Nat.zero_le _, rfl, HL1, HB1⟩
  case round =>
    obtain ⟨k, hkl, rfl, hL, hB⟩ := hrel
    by_cases hlt : k < l.length
    · have HT := Lib.hid (adds_take room l k hlt)
      obtain ⟨ad, rfl, ha⟩ := (HA.out.below hB.out (Nat.le_refl _)).at_ hlt
      obtain ⟨e, he⟩ : ∃ e, l[k] = e := ⟨_, rfl⟩
      rw [he] at ha HT
      obtain ⟨x0, x1, x2, x3, x4, x5, x6, x7, x8, x9, x10, x11, x12, x13⟩ := ha.cells
      clear ha he
      go_wp2_with (go_at_call 15; (with_reducible refine (ledAdd_any (w.heap.size + 1) w.heap.size room (adds room (l.take k)) e _ hL.out).mono ?_); rintro r w2 ⟨rfl, hL2, hg2⟩; have HL2 := Lib.hid hL2; have HB2 := Lib.hid (hB.out.trans (below_of_grown hg2 hB.out.size (Nat.le_refl _))); clear hL2 hg2)
      go_roundw
      case rel => exact ⟨k + 1, by omega, by go_num, by rw [HT.out]; exact HL2, HB2⟩
      case measure => simp [intOf]; omega
    · obtain ⟨S, hS⟩ : ∃ S, adds room (l.take k) = S := ⟨_, rfl⟩
      rw [hS] at hL
      clear hS
      have hok := hL.out.2.2.2.1
      have hlen := hL.out.len
      have hw := fun (e : En) (he : e ∈ S) => En.wf (hok.2.1 e he)
      have hfull : decide (room ≤ (S.length : Int)) = ((S.length : Int) == room) := by
        have := hok.2.2
        rw [Bool.eq_iff_iff, decide_eq_true_iff, beq_iff_eq]
        omega
      obtain ⟨fb, hfb⟩ : ∃ fb, ((S.length : Int) == room) = fb := ⟨_, rfl⟩
      rw [hfb] at hfull
      have hF := fun W (h : Led W (w.heap.size + 1) w.heap.size room S) => ledFull_any (w.heap.size + 1) w.heap.size room S W h
      rw [hfull] at hF
      have HOK := Lib.hid hok
      have HW := Lib.hid hw
      clear hok hw hfull
      go_wp2_with (first
        | (go_at_call 25; (with_reducible refine (ledAll_any (w.heap.size + 1) w.heap.size room S _ hL.out).mono ?_); rintro r w2 ⟨B, d, rfl, q1, q2, q3, hb2, q5⟩; have HL2 := Lib.hid (hL.out.below hb2 (Nat.le_refl _)); have HB2 := Lib.hid (bT hB.out hb2); have HR2 := Lib.hid q3; clear hb2 q3 q5)
        | (go_at_call 19; (with_reducible refine (ledLen_any (w.heap.size + 1) w.heap.size room S _ HL2.out).mono ?_); rintro r w3 ⟨rfl, hb3⟩; have HL3 := Lib.hid (HL2.out.below hb3 (Nat.le_refl _)); have HB3 := Lib.hid (bT HB2.out hb3); have HR3 := Lib.hid (HR2.out.below hb3 (Nat.le_refl _)); clear hb3)
        | (go_at_call 20; (with_reducible refine (hF _ HL3.out).mono ?_); rintro r w4 ⟨rfl, hb4⟩; have HL4 := Lib.hid (HL3.out.below hb4 (Nat.le_refl _)); have HB4 := Lib.hid (bT HB3.out hb4); have HR4 := Lib.hid (HR3.out.below hb4 (Nat.le_refl _)); clear hb4))
      go_loopw [9] (fun i wr => ∃ k : Nat, k ≤ S.length ∧ i = .int .i64 k ∧ Hid (Led wr (w.heap.size + 1) w.heap.size room S) ∧ Hid (RdE wr B S) ∧ Hid (Below w.heap.size w wr)) (fun i _ => S.length - (intOf i).toNat)
      case atStart => exact ⟨0, Nat.zero_le _, rfl, HL4, HR4, HB4⟩
      case round =>
        obtain ⟨k, hkl, rfl, hL, hR, hB⟩ := hrel
        by_cases hlt : k < S.length
        · have hks : k < S.length := hlt
          have HWE := Lib.hid (HW.out S[k] (List.getElem_mem hks))
          have HG := Lib.hid (show gotR S S[k].a0 = (S[k], 0) by unfold gotR; rw [fnd_mem HOK.out.1 (List.getElem_mem hks)])
          have HO := Lib.hid (HOK.out.2.1 S[k] (List.getElem_mem hks))
          by_cases hk0 : 0 < k
          · have HLT := Lib.hid (show S[k - 1].a0 < S[k].a0 from (List.pairwise_iff_getElem.1 HOK.out.1) (k - 1) k (by omega) hks (by omega))
            have hk1 : k - 1 < S.length := by omega
            obtain ⟨ad, rfl, ha⟩ := hR.out.at_ hlt
            obtain ⟨ad', hq, hp⟩ := hR.out.at_ hk1
            obtain rfl := Option.some.inj hq
            obtain ⟨e, he⟩ : ∃ e, S[k] = e := ⟨_, rfl⟩
            obtain ⟨f0, hf0⟩ : ∃ f0, S[k - 1].a0 = f0 := ⟨_, rfl⟩
            have xq := hp.1
            rw [he] at ha HWE HG HO HLT
            rw [hf0] at HLT xq
            have HE := Lib.hid ha
            have HP := Lib.hid xq
            have dlt : decide (e.a0 ≤ f0) = false := by have := HLT.out; simp; omega
            have dk : decide ((0 : Int) < (k : Int)) = true := by simp; omega
            have ew : IntKind.i64.wrap ((k : Int) - 1) = (k : Int) - 1 := IntWalk.i64_in _ (by omega)
            have ew0 : (0 : Int) ≤ (k : Int) - 1 := by omega
            have ew3 : (1 : Int) ≤ (k : Int) := by omega
            have ew1 : ((k : Int) - 1).toNat = k - 1 := by omega
            have ew2 : (k : Int) - 1 < (S.length : Int) := by omega
            obtain ⟨x0, x1, x2, x3, x4, x5, x6, x7, x8, x9, x10, x11, x12, x13⟩ := ha.cells
            clear ha he hf0 hp hq hk1
            go_wp2_with (go_at_call 17; (with_reducible refine (ledGet_any (w.heap.size + 1) w.heap.size room e.a0 S _ hL.out HWE.out e 0 HG.out).mono ?_); rintro r w5 ⟨rfl, hb5⟩)
            obtain ⟨W0, hW0⟩ : ∃ W0, w5.alloc (.cells #[.int .i64 e.a0, .int .i64 e.a1, .int .i64 e.a2, .int .i64 e.a3, .int .i64 e.a4, .int .i64 e.a5, .int .i64 e.a6, .int .i64 e.a7, .int .i64 e.a8, .int .i64 e.a9, .int .i64 e.a10, .int .i64 e.l, .int .i64 e.i, .bool e.bk] 37) = W0 := ⟨_, rfl⟩
            have hb := hb5.trans (show Below wr.heap.size w5 W0 from by rw [← hW0]; exact (bel1 w5 _).mono hb5.size)
            have HL5 := Lib.hid (hL.out.below hb (Nat.le_refl _))
            have HR5 := Lib.hid (hR.out.below hb (Nat.le_refl _))
            have HB5 := Lib.hid (bT hB.out hb)
            have HY5 : Hid (W0.heap[w5.heap.size]? = some (.cells e.row.toArray 37 (0, 0))) := Lib.hid (by rw [← hW0]; exact heap_alloc_new w5 _)
            have HE5 := Lib.hid (HE.out.below hb (Nat.le_refl _))
            have HP5 := Lib.hid ((hb.cell (World.block_lt_of_cell? wr _ HP.out)).trans HP.out)
            rw [hW0]
            clear hb5 hb hW0 x0 x1 x2 x3 x4 x5 x6 x7 x8 x9 x10 x11 x12 x13 xq
            have hS := fun w9 (h : Below W0.heap.size W0 w9) => la_s1 HY5 HE5 HP5 h
            refine wp_region_held_drew (S := fun w9 => Below W0.heap.size W0 w9 ∧ w9.cell? ⟨w5.heap.size, 0, none⟩ = some (.int .i64 e.a0) ∧ w9.cell? ⟨w5.heap.size, 1, none⟩ = some (.int .i64 e.a1) ∧ w9.cell? ⟨w5.heap.size, 2, none⟩ = some (.int .i64 e.a2) ∧ w9.cell? ⟨w5.heap.size, 3, none⟩ = some (.int .i64 e.a3) ∧ w9.cell? ⟨w5.heap.size, 4, none⟩ = some (.int .i64 e.a4) ∧ w9.cell? ⟨w5.heap.size, 5, none⟩ = some (.int .i64 e.a5) ∧ w9.cell? ⟨w5.heap.size, 6, none⟩ = some (.int .i64 e.a6) ∧ w9.cell? ⟨w5.heap.size, 7, none⟩ = some (.int .i64 e.a7) ∧ w9.cell? ⟨w5.heap.size, 8, none⟩ = some (.int .i64 e.a8) ∧ w9.cell? ⟨w5.heap.size, 9, none⟩ = some (.int .i64 e.a9) ∧ w9.cell? ⟨w5.heap.size, 10, none⟩ = some (.int .i64 e.a10) ∧ w9.cell? ⟨w5.heap.size, 11, none⟩ = some (.int .i64 e.l) ∧ w9.cell? ⟨w5.heap.size, 12, none⟩ = some (.int .i64 e.i) ∧ w9.cell? ⟨w5.heap.size, 13, none⟩ = some (.bool e.bk) ∧ w9.cell? (ad.add (k * 14)) = some (.int .i64 e.a0) ∧ w9.cell? ⟨((ad.add (k * 14))).block, ((ad.add (k * 14))).off + 1, none⟩ = some (.int .i64 e.a1) ∧ w9.cell? ⟨((ad.add (k * 14))).block, ((ad.add (k * 14))).off + 2, none⟩ = some (.int .i64 e.a2) ∧ w9.cell? ⟨((ad.add (k * 14))).block, ((ad.add (k * 14))).off + 3, none⟩ = some (.int .i64 e.a3) ∧ w9.cell? ⟨((ad.add (k * 14))).block, ((ad.add (k * 14))).off + 4, none⟩ = some (.int .i64 e.a4) ∧ w9.cell? ⟨((ad.add (k * 14))).block, ((ad.add (k * 14))).off + 5, none⟩ = some (.int .i64 e.a5) ∧ w9.cell? ⟨((ad.add (k * 14))).block, ((ad.add (k * 14))).off + 6, none⟩ = some (.int .i64 e.a6) ∧ w9.cell? ⟨((ad.add (k * 14))).block, ((ad.add (k * 14))).off + 7, none⟩ = some (.int .i64 e.a7) ∧ w9.cell? ⟨((ad.add (k * 14))).block, ((ad.add (k * 14))).off + 8, none⟩ = some (.int .i64 e.a8) ∧ w9.cell? ⟨((ad.add (k * 14))).block, ((ad.add (k * 14))).off + 9, none⟩ = some (.int .i64 e.a9) ∧ w9.cell? ⟨((ad.add (k * 14))).block, ((ad.add (k * 14))).off + 10, none⟩ = some (.int .i64 e.a10) ∧ w9.cell? ⟨((ad.add (k * 14))).block, ((ad.add (k * 14))).off + 11, none⟩ = some (.int .i64 e.l) ∧ w9.cell? ⟨((ad.add (k * 14))).block, ((ad.add (k * 14))).off + 12, none⟩ = some (.int .i64 e.i) ∧ w9.cell? ⟨((ad.add (k * 14))).block, ((ad.add (k * 14))).off + 13, none⟩ = some (.bool e.bk) ∧ w9.cell? (ad.add ((k - 1) * 14)) = some (.int .i64 f0)) (by kernel_rfl) (hS _ (bD (bR W0))) (fun hHeld => ?_)
            refine wpAnyH_take (i := 0) (oi := ?_) (v := ?_) ?hiu1 (by as_aux_lemma => kernel_rfl) (by as_aux_lemma => kernel_rfl) (by as_aux_lemma => kernel_rfl) ?hQu1 (Or.inl ⟨?hwu1, ?hyu1⟩) hHeld ?restu1
            case hiu1 => simp only [List.getElem?_toArray, List.getElem?_cons_zero, List.getElem?_cons_succ]; rfl
            case hwu1 => rfl
            case hyu1 => (intro w9 hSw; (try dsimp only at hSw); go_simp; (try with_reducible rfl))
            case hQu1 => exact fun _ _ _ h => h
            (try simp only [Act.put, List.setIfInBounds_toArray, List.set_cons_zero, List.set_cons_succ])
            refine wpAnyH_take (i := 1) (oi := ?_) (v := ?_) ?hiu2 (by as_aux_lemma => kernel_rfl) (by as_aux_lemma => kernel_rfl) (by as_aux_lemma => kernel_rfl) ?hQu2 (Or.inl ⟨?hwu2, ?hyu2⟩) hHeld ?restu2
            case hiu2 => simp only [List.getElem?_toArray, List.getElem?_cons_zero, List.getElem?_cons_succ]; rfl
            case hwu2 => rfl
            case hyu2 => (intro w9 hSw; (try dsimp only at hSw); go_simp; (try with_reducible rfl))
            case hQu2 => exact fun _ _ _ h => h
            (try simp only [Act.put, List.setIfInBounds_toArray, List.set_cons_zero, List.set_cons_succ])
            refine wpAnyH_take (i := 2) (oi := ?_) (v := ?_) ?hiu3 (by as_aux_lemma => kernel_rfl) (by as_aux_lemma => kernel_rfl) (by as_aux_lemma => kernel_rfl) ?hQu3 (Or.inl ⟨?hwu3, ?hyu3⟩) hHeld ?restu3
            case hiu3 => simp only [List.getElem?_toArray, List.getElem?_cons_zero, List.getElem?_cons_succ]; rfl
            case hwu3 => rfl
            case hyu3 => (intro w9 hSw; (try dsimp only at hSw); go_simp; (try with_reducible rfl))
            case hQu3 => exact fun _ _ _ h => h
            (try simp only [Act.put, List.setIfInBounds_toArray, List.set_cons_zero, List.set_cons_succ])
            refine wpAnyH_take (i := 3) (oi := ?_) (v := ?_) ?hiu4 (by as_aux_lemma => kernel_rfl) (by as_aux_lemma => kernel_rfl) (by as_aux_lemma => kernel_rfl) ?hQu4 (Or.inl ⟨?hwu4, ?hyu4⟩) hHeld ?restu4
            case hiu4 => simp only [List.getElem?_toArray, List.getElem?_cons_zero, List.getElem?_cons_succ]; rfl
            case hwu4 => rfl
            case hyu4 => (intro w9 hSw; (try dsimp only at hSw); go_simp; (try with_reducible rfl))
            case hQu4 => exact fun _ _ _ h => h
            (try simp only [Act.put, List.setIfInBounds_toArray, List.set_cons_zero, List.set_cons_succ])
            refine wpAnyH_take (i := 4) (oi := ?_) (v := ?_) ?hiu5 (by as_aux_lemma => kernel_rfl) (by as_aux_lemma => kernel_rfl) (by as_aux_lemma => kernel_rfl) ?hQu5 (Or.inl ⟨?hwu5, ?hyu5⟩) hHeld ?restu5
            case hiu5 => simp only [List.getElem?_toArray, List.getElem?_cons_zero, List.getElem?_cons_succ]; rfl
            case hwu5 => rfl
            case hyu5 => (intro w9 hSw; (try dsimp only at hSw); go_simp; (try with_reducible rfl))
            case hQu5 => exact fun _ _ _ h => h
            (try simp only [Act.put, List.setIfInBounds_toArray, List.set_cons_zero, List.set_cons_succ])
            refine wpAnyH_take (i := 5) (oi := ?_) (v := ?_) ?hiu6 (by as_aux_lemma => kernel_rfl) (by as_aux_lemma => kernel_rfl) (by as_aux_lemma => kernel_rfl) ?hQu6 (Or.inl ⟨?hwu6, ?hyu6⟩) hHeld ?restu6
            case hiu6 => simp only [List.getElem?_toArray, List.getElem?_cons_zero, List.getElem?_cons_succ]; rfl
            case hwu6 => rfl
            case hyu6 => (intro w9 hSw; (try dsimp only at hSw); go_simp; (try with_reducible rfl))
            case hQu6 => exact fun _ _ _ h => h
            (try simp only [Act.put, List.setIfInBounds_toArray, List.set_cons_zero, List.set_cons_succ])
            refine wpAnyH_take (i := 6) (oi := ?_) (v := ?_) ?hiu7 (by as_aux_lemma => kernel_rfl) (by as_aux_lemma => kernel_rfl) (by as_aux_lemma => kernel_rfl) ?hQu7 (Or.inl ⟨?hwu7, ?hyu7⟩) hHeld ?restu7
            case hiu7 => simp only [List.getElem?_toArray, List.getElem?_cons_zero, List.getElem?_cons_succ]; rfl
            case hwu7 => rfl
            case hyu7 => (intro w9 hSw; (try dsimp only at hSw); go_simp; (try with_reducible rfl))
            case hQu7 => exact fun _ _ _ h => h
            (try simp only [Act.put, List.setIfInBounds_toArray, List.set_cons_zero, List.set_cons_succ])
            refine wpAnyH_take (i := 7) (oi := ?_) (v := ?_) ?hiu8 (by as_aux_lemma => kernel_rfl) (by as_aux_lemma => kernel_rfl) (by as_aux_lemma => kernel_rfl) ?hQu8 (Or.inl ⟨?hwu8, ?hyu8⟩) hHeld ?restu8
            case hiu8 => simp only [List.getElem?_toArray, List.getElem?_cons_zero, List.getElem?_cons_succ]; rfl
            case hwu8 => rfl
            case hyu8 => (intro w9 hSw; (try dsimp only at hSw); go_simp; (try with_reducible rfl))
            case hQu8 => exact fun _ _ _ h => h
            (try simp only [Act.put, List.setIfInBounds_toArray, List.set_cons_zero, List.set_cons_succ])
            refine wpAnyH_take (i := 8) (oi := ?_) (v := ?_) ?hiu9 (by as_aux_lemma => kernel_rfl) (by as_aux_lemma => kernel_rfl) (by as_aux_lemma => kernel_rfl) ?hQu9 (Or.inl ⟨?hwu9, ?hyu9⟩) hHeld ?restu9
            case hiu9 => simp only [List.getElem?_toArray, List.getElem?_cons_zero, List.getElem?_cons_succ]; rfl
            case hwu9 => rfl
            case hyu9 => (intro w9 hSw; (try dsimp only at hSw); go_simp; (try with_reducible rfl))
            case hQu9 => exact fun _ _ _ h => h
            (try simp only [Act.put, List.setIfInBounds_toArray, List.set_cons_zero, List.set_cons_succ])
            refine wpAnyH_take (i := 9) (oi := ?_) (v := ?_) ?hiu10 (by as_aux_lemma => kernel_rfl) (by as_aux_lemma => kernel_rfl) (by as_aux_lemma => kernel_rfl) ?hQu10 (Or.inl ⟨?hwu10, ?hyu10⟩) hHeld ?restu10
            case hiu10 => simp only [List.getElem?_toArray, List.getElem?_cons_zero, List.getElem?_cons_succ]; rfl
            case hwu10 => rfl
            case hyu10 => (intro w9 hSw; (try dsimp only at hSw); go_simp; (try with_reducible rfl))
            case hQu10 => exact fun _ _ _ h => h
            (try simp only [Act.put, List.setIfInBounds_toArray, List.set_cons_zero, List.set_cons_succ])
            refine wpAnyH_take (i := 10) (oi := ?_) (v := ?_) ?hiu11 (by as_aux_lemma => kernel_rfl) (by as_aux_lemma => kernel_rfl) (by as_aux_lemma => kernel_rfl) ?hQu11 (Or.inl ⟨?hwu11, ?hyu11⟩) hHeld ?restu11
            case hiu11 => simp only [List.getElem?_toArray, List.getElem?_cons_zero, List.getElem?_cons_succ]; rfl
            case hwu11 => rfl
            case hyu11 => (intro w9 hSw; (try dsimp only at hSw); go_simp; (try with_reducible rfl))
            case hQu11 => exact fun _ _ _ h => h
            (try simp only [Act.put, List.setIfInBounds_toArray, List.set_cons_zero, List.set_cons_succ])
            refine wpAnyH_take (i := 11) (oi := ?_) (v := ?_) ?hiu12 (by as_aux_lemma => kernel_rfl) (by as_aux_lemma => kernel_rfl) (by as_aux_lemma => kernel_rfl) ?hQu12 (Or.inl ⟨?hwu12, ?hyu12⟩) hHeld ?restu12
            case hiu12 => simp only [List.getElem?_toArray, List.getElem?_cons_zero, List.getElem?_cons_succ]; rfl
            case hwu12 => rfl
            case hyu12 => (intro w9 hSw; (try dsimp only at hSw); go_simp; (try with_reducible rfl))
            case hQu12 => exact fun _ _ _ h => h
            (try simp only [Act.put, List.setIfInBounds_toArray, List.set_cons_zero, List.set_cons_succ])
            refine wpAnyH_ready (rs := [12]) (by as_aux_lemma => kernel_rfl) (by simp) (AllReadyH.cons (o := ?_) ?hiu13 (fun K hK => ?_) AllReadyH.nil)
            case hiu13 => simp only [List.getElem?_toArray, List.getElem?_cons_zero, List.getElem?_cons_succ]; rfl
            (try rw [if_pos (by rfl)])
            go_wp2_with fail
            refine (ledIs_any e _).mono ?_
            rintro e w6 ⟨he, hb6⟩
            rw [HO.out] at he
            subst he
            dsimp only
            refine hK.out _ _ ?_ (fun hHeld => ?_)
            · exact hS _ (bT hHeld.1 hb6)
            clear hK K
            (try simp only [Act.put, List.setIfInBounds_toArray, List.set_cons_zero, List.set_cons_succ])
            refine wpAnyH_take (i := 13) (oi := ?_) (v := ?_) ?hiu14 (by as_aux_lemma => kernel_rfl) (by as_aux_lemma => kernel_rfl) (by as_aux_lemma => kernel_rfl) ?hQu14 (Or.inl ⟨?hwu14, ?hyu14⟩) hHeld ?restu14
            case hiu14 => simp only [List.getElem?_toArray, List.getElem?_cons_zero, List.getElem?_cons_succ]; rfl
            case hwu14 => rfl
            case hyu14 => (intro w9 hSw; (try dsimp only at hSw); go_simp; (try with_reducible rfl))
            case hQu14 => exact fun _ _ _ h => h
            (try simp only [Act.put, List.setIfInBounds_toArray, List.set_cons_zero, List.set_cons_succ])
            refine wpAnyH_take (i := 14) (oi := ?_) (v := ?_) ?hiu15 (by as_aux_lemma => kernel_rfl) (by as_aux_lemma => kernel_rfl) (by as_aux_lemma => kernel_rfl) ?hQu15 (Or.inl ⟨?hwu15, ?hyu15⟩) hHeld ?restu15
            case hiu15 => simp only [List.getElem?_toArray, List.getElem?_cons_zero, List.getElem?_cons_succ]; rfl
            case hwu15 => rfl
            case hyu15 => (intro w9 hSw; (try dsimp only at hSw); go_simp; (try with_reducible rfl))
            case hQu15 => exact fun _ _ _ h => h
            (try simp only [Act.put, List.setIfInBounds_toArray, List.set_cons_zero, List.set_cons_succ])
            refine wpAnyH_take (i := 15) (oi := ?_) (v := ?_) ?hiu16 (by as_aux_lemma => kernel_rfl) (by as_aux_lemma => kernel_rfl) (by as_aux_lemma => kernel_rfl) ?hQu16 (Or.inl ⟨?hwu16, ?hyu16⟩) hHeld ?restu16
            case hiu16 => simp only [List.getElem?_toArray, List.getElem?_cons_zero, List.getElem?_cons_succ]; rfl
            case hwu16 => rfl
            case hyu16 => (intro w9 hSw; (try dsimp only at hSw); go_simp; (try with_reducible rfl))
            case hQu16 => exact fun _ _ _ h => h
            (try simp only [Act.put, List.setIfInBounds_toArray, List.set_cons_zero, List.set_cons_succ])
            refine wpAnyH_take (i := 16) (oi := ?_) (v := ?_) ?hiu17 (by as_aux_lemma => kernel_rfl) (by as_aux_lemma => kernel_rfl) (by as_aux_lemma => kernel_rfl) ?hQu17 (Or.inl ⟨?hwu17, ?hyu17⟩) hHeld ?restu17
            case hiu17 => simp only [List.getElem?_toArray, List.getElem?_cons_zero, List.getElem?_cons_succ]; rfl
            case hwu17 => rfl
            case hyu17 => (intro w9 hSw; (try dsimp only at hSw); go_simp; (try with_reducible rfl))
            case hQu17 => exact fun _ _ _ h => h
            (try simp only [Act.put, List.setIfInBounds_toArray, List.set_cons_zero, List.set_cons_succ])
            refine wpAnyH_take (i := 17) (oi := ?_) (v := ?_) ?hiu18 (by as_aux_lemma => kernel_rfl) (by as_aux_lemma => kernel_rfl) (by as_aux_lemma => kernel_rfl) ?hQu18 (Or.inl ⟨?hwu18, ?hyu18⟩) hHeld ?restu18
            case hiu18 => simp only [List.getElem?_toArray, List.getElem?_cons_zero, List.getElem?_cons_succ]; rfl
            case hwu18 => rfl
            case hyu18 => (intro w9 hSw; (try dsimp only at hSw); go_simp; (try with_reducible rfl))
            case hQu18 => exact fun _ _ _ h => h
            (try simp only [Act.put, List.setIfInBounds_toArray, List.set_cons_zero, List.set_cons_succ])
            refine wpAnyH_take (i := 18) (oi := ?_) (v := ?_) ?hiu19 (by as_aux_lemma => kernel_rfl) (by as_aux_lemma => kernel_rfl) (by as_aux_lemma => kernel_rfl) ?hQu19 (Or.inl ⟨?hwu19, ?hyu19⟩) hHeld ?restu19
            case hiu19 => simp only [List.getElem?_toArray, List.getElem?_cons_zero, List.getElem?_cons_succ]; rfl
            case hwu19 => rfl
            case hyu19 => (intro w9 hSw; (try dsimp only at hSw); go_simp; (try with_reducible rfl))
            case hQu19 => exact fun _ _ _ h => h
            (try simp only [Act.put, List.setIfInBounds_toArray, List.set_cons_zero, List.set_cons_succ])
            refine wpAnyH_take (i := 19) (oi := ?_) (v := ?_) ?hiu20 (by as_aux_lemma => kernel_rfl) (by as_aux_lemma => kernel_rfl) (by as_aux_lemma => kernel_rfl) ?hQu20 (Or.inl ⟨?hwu20, ?hyu20⟩) hHeld ?restu20
            case hiu20 => simp only [List.getElem?_toArray, List.getElem?_cons_zero, List.getElem?_cons_succ]; rfl
            case hwu20 => rfl
            case hyu20 => (intro w9 hSw; (try dsimp only at hSw); go_simp; (try with_reducible rfl))
            case hQu20 => exact fun _ _ _ h => h
            (try simp only [Act.put, List.setIfInBounds_toArray, List.set_cons_zero, List.set_cons_succ])
            refine wpAnyH_take (i := 20) (oi := ?_) (v := ?_) ?hiu21 (by as_aux_lemma => kernel_rfl) (by as_aux_lemma => kernel_rfl) (by as_aux_lemma => kernel_rfl) ?hQu21 (Or.inl ⟨?hwu21, ?hyu21⟩) hHeld ?restu21
            case hiu21 => simp only [List.getElem?_toArray, List.getElem?_cons_zero, List.getElem?_cons_succ]; rfl
            case hwu21 => rfl
            case hyu21 => (intro w9 hSw; (try dsimp only at hSw); go_simp; (try with_reducible rfl))
            case hQu21 => exact fun _ _ _ h => h
            (try simp only [Act.put, List.setIfInBounds_toArray, List.set_cons_zero, List.set_cons_succ])
            refine wpAnyH_take (i := 21) (oi := ?_) (v := ?_) ?hiu22 (by as_aux_lemma => kernel_rfl) (by as_aux_lemma => kernel_rfl) (by as_aux_lemma => kernel_rfl) ?hQu22 (Or.inl ⟨?hwu22, ?hyu22⟩) hHeld ?restu22
            case hiu22 => simp only [List.getElem?_toArray, List.getElem?_cons_zero, List.getElem?_cons_succ]; rfl
            case hwu22 => rfl
            case hyu22 => (intro w9 hSw; (try dsimp only at hSw); go_simp; (try with_reducible rfl))
            case hQu22 => exact fun _ _ _ h => h
            (try simp only [Act.put, List.setIfInBounds_toArray, List.set_cons_zero, List.set_cons_succ])
            refine wpAnyH_take (i := 22) (oi := ?_) (v := ?_) ?hiu23 (by as_aux_lemma => kernel_rfl) (by as_aux_lemma => kernel_rfl) (by as_aux_lemma => kernel_rfl) ?hQu23 (Or.inl ⟨?hwu23, ?hyu23⟩) hHeld ?restu23
            case hiu23 => simp only [List.getElem?_toArray, List.getElem?_cons_zero, List.getElem?_cons_succ]; rfl
            case hwu23 => rfl
            case hyu23 => (intro w9 hSw; (try dsimp only at hSw); go_simp; (try with_reducible rfl))
            case hQu23 => exact fun _ _ _ h => h
            (try simp only [Act.put, List.setIfInBounds_toArray, List.set_cons_zero, List.set_cons_succ])
            refine wpAnyH_take (i := 23) (oi := ?_) (v := ?_) ?hiu24 (by as_aux_lemma => kernel_rfl) (by as_aux_lemma => kernel_rfl) (by as_aux_lemma => kernel_rfl) ?hQu24 (Or.inl ⟨?hwu24, ?hyu24⟩) hHeld ?restu24
            case hiu24 => simp only [List.getElem?_toArray, List.getElem?_cons_zero, List.getElem?_cons_succ]; rfl
            case hwu24 => rfl
            case hyu24 => (intro w9 hSw; (try dsimp only at hSw); go_simp; (try with_reducible rfl))
            case hQu24 => exact fun _ _ _ h => h
            (try simp only [Act.put, List.setIfInBounds_toArray, List.set_cons_zero, List.set_cons_succ])
            refine wpAnyH_take (i := 24) (oi := ?_) (v := ?_) ?hiu25 (by as_aux_lemma => kernel_rfl) (by as_aux_lemma => kernel_rfl) (by as_aux_lemma => kernel_rfl) ?hQu25 (Or.inl ⟨?hwu25, ?hyu25⟩) hHeld ?restu25
            case hiu25 => simp only [List.getElem?_toArray, List.getElem?_cons_zero, List.getElem?_cons_succ]; rfl
            case hwu25 => rfl
            case hyu25 => (intro w9 hSw; (try dsimp only at hSw); go_simp; (try with_reducible rfl))
            case hQu25 => exact fun _ _ _ h => h
            (try simp only [Act.put, List.setIfInBounds_toArray, List.set_cons_zero, List.set_cons_succ])
            refine wpAnyH_take (i := 25) (oi := ?_) (v := ?_) ?hiu26 (by as_aux_lemma => kernel_rfl) (by as_aux_lemma => kernel_rfl) (by as_aux_lemma => kernel_rfl) ?hQu26 (Or.inl ⟨?hwu26, ?hyu26⟩) hHeld ?restu26
            case hiu26 => simp only [List.getElem?_toArray, List.getElem?_cons_zero, List.getElem?_cons_succ]; rfl
            case hwu26 => rfl
            case hyu26 => (intro w9 hSw; (try dsimp only at hSw); go_simp; (try with_reducible rfl))
            case hQu26 => exact fun _ _ _ h => h
            (try simp only [Act.put, List.setIfInBounds_toArray, List.set_cons_zero, List.set_cons_succ])
            refine wpAnyH_take (i := 26) (oi := ?_) (v := ?_) ?hiu27 (by as_aux_lemma => kernel_rfl) (by as_aux_lemma => kernel_rfl) (by as_aux_lemma => kernel_rfl) ?hQu27 (Or.inl ⟨?hwu27, ?hyu27⟩) hHeld ?restu27
            case hiu27 => simp only [List.getElem?_toArray, List.getElem?_cons_zero, List.getElem?_cons_succ]; rfl
            case hwu27 => rfl
            case hyu27 => (intro w9 hSw; (try dsimp only at hSw); go_simp; (try with_reducible rfl))
            case hQu27 => exact fun _ _ _ h => h
            (try simp only [Act.put, List.setIfInBounds_toArray, List.set_cons_zero, List.set_cons_succ])
            refine wpAnyH_take (i := 27) (oi := ?_) (v := ?_) ?hiu28 (by as_aux_lemma => kernel_rfl) (by as_aux_lemma => kernel_rfl) (by as_aux_lemma => kernel_rfl) ?hQu28 (Or.inl ⟨?hwu28, ?hyu28⟩) hHeld ?restu28
            case hiu28 => simp only [List.getElem?_toArray, List.getElem?_cons_zero, List.getElem?_cons_succ]; rfl
            case hwu28 => rfl
            case hyu28 => (intro w9 hSw; (try dsimp only at hSw); go_simp; (try with_reducible rfl))
            case hQu28 => exact fun _ _ _ h => h
            (try simp only [Act.put, List.setIfInBounds_toArray, List.set_cons_zero, List.set_cons_succ])
            refine wpAnyH_take (i := 28) (oi := ?_) (v := ?_) ?hiu29 (by as_aux_lemma => kernel_rfl) (by as_aux_lemma => kernel_rfl) (by as_aux_lemma => kernel_rfl) ?hQu29 (Or.inl ⟨?hwu29, ?hyu29⟩) hHeld ?restu29
            case hiu29 => simp only [List.getElem?_toArray, List.getElem?_cons_zero, List.getElem?_cons_succ]; rfl
            case hwu29 => rfl
            case hyu29 => (intro w9 hSw; (try dsimp only at hSw); go_simp; (try with_reducible rfl))
            case hQu29 => exact fun _ _ _ h => h
            (try simp only [Act.put, List.setIfInBounds_toArray, List.set_cons_zero, List.set_cons_succ])
            refine wpAnyH_take (i := 29) (oi := ?_) (v := ?_) ?hiu30 (by as_aux_lemma => kernel_rfl) (by as_aux_lemma => kernel_rfl) (by as_aux_lemma => kernel_rfl) ?hQu30 (Or.inl ⟨?hwu30, ?hyu30⟩) hHeld ?restu30
            case hiu30 => simp only [List.getElem?_toArray, List.getElem?_cons_zero, List.getElem?_cons_succ]; rfl
            case hwu30 => rfl
            case hyu30 => (intro w9 hSw; (try dsimp only at hSw); go_simp; (try with_reducible rfl))
            case hQu30 => exact fun _ _ _ h => h
            (try simp only [Act.put, List.setIfInBounds_toArray, List.set_cons_zero, List.set_cons_succ])
            refine wpAnyH_take (i := 30) (oi := ?_) (v := ?_) ?hiu31 (by as_aux_lemma => kernel_rfl) (by as_aux_lemma => kernel_rfl) (by as_aux_lemma => kernel_rfl) ?hQu31 (Or.inl ⟨?hwu31, ?hyu31⟩) hHeld ?restu31
            case hiu31 => simp only [List.getElem?_toArray, List.getElem?_cons_zero, List.getElem?_cons_succ]; rfl
            case hwu31 => rfl
            case hyu31 => (intro w9 hSw; (try dsimp only at hSw); go_simp; (try with_reducible rfl))
            case hQu31 => exact fun _ _ _ h => h
            (try simp only [Act.put, List.setIfInBounds_toArray, List.set_cons_zero, List.set_cons_succ])
            refine wpAnyH_take (i := 31) (oi := ?_) (v := ?_) ?hiu32 (by as_aux_lemma => kernel_rfl) (by as_aux_lemma => kernel_rfl) (by as_aux_lemma => kernel_rfl) ?hQu32 (Or.inl ⟨?hwu32, ?hyu32⟩) hHeld ?restu32
            case hiu32 => simp only [List.getElem?_toArray, List.getElem?_cons_zero, List.getElem?_cons_succ]; rfl
            case hwu32 => rfl
            case hyu32 => (intro w9 hSw; (try dsimp only at hSw); go_simp; (try with_reducible rfl))
            case hQu32 => exact fun _ _ _ h => h
            (try simp only [Act.put, List.setIfInBounds_toArray, List.set_cons_zero, List.set_cons_succ])
            refine wpAnyH_take (i := 32) (oi := ?_) (v := ?_) ?hiu33 (by as_aux_lemma => kernel_rfl) (by as_aux_lemma => kernel_rfl) (by as_aux_lemma => kernel_rfl) ?hQu33 (Or.inl ⟨?hwu33, ?hyu33⟩) hHeld ?restu33
            case hiu33 => simp only [List.getElem?_toArray, List.getElem?_cons_zero, List.getElem?_cons_succ]; rfl
            case hwu33 => rfl
            case hyu33 => (intro w9 hSw; (try dsimp only at hSw); go_simp; (try with_reducible rfl))
            case hQu33 => exact fun _ _ _ h => h
            (try simp only [Act.put, List.setIfInBounds_toArray, List.set_cons_zero, List.set_cons_succ])
            refine wpAnyH_take (i := 33) (oi := ?_) (v := ?_) ?hiu34 (by as_aux_lemma => kernel_rfl) (by as_aux_lemma => kernel_rfl) (by as_aux_lemma => kernel_rfl) ?hQu34 (Or.inl ⟨?hwu34, ?hyu34⟩) hHeld ?restu34
            case hiu34 => simp only [List.getElem?_toArray, List.getElem?_cons_zero, List.getElem?_cons_succ]; rfl
            case hwu34 => rfl
            case hyu34 => (intro w9 hSw; (try dsimp only at hSw); go_simp; (try with_reducible rfl))
            case hQu34 => exact fun _ _ _ h => h
            (try simp only [Act.put, List.setIfInBounds_toArray, List.set_cons_zero, List.set_cons_succ])
            refine wpAnyH_take (i := 34) (oi := ?_) (v := ?_) ?hiu35 (by as_aux_lemma => kernel_rfl) (by as_aux_lemma => kernel_rfl) (by as_aux_lemma => kernel_rfl) ?hQu35 (Or.inl ⟨?hwu35, ?hyu35⟩) hHeld ?restu35
            case hiu35 => simp only [List.getElem?_toArray, List.getElem?_cons_zero, List.getElem?_cons_succ]; rfl
            case hwu35 => rfl
            case hyu35 => (intro w9 hSw; (try dsimp only at hSw); go_simp; (try with_reducible rfl))
            case hQu35 => exact fun _ _ _ h => h
            (try simp only [Act.put, List.setIfInBounds_toArray, List.set_cons_zero, List.set_cons_succ])
            refine wpAnyH_done (by as_aux_lemma => kernel_rfl) ?_ _
            have HL7 := Lib.hid (HL5.out.below hHeld.1 (Nat.le_refl _))
            have HR7 := Lib.hid (HR5.out.below hHeld.1 (Nat.le_refl _))
            have HB7 := Lib.hid (bT HB5.out hHeld.1)
            clear hHeld hS
            go_wp2
            go_roundw
            case rel => exact ⟨k + 1, by omega, by go_num, HL7, HR7, HB7⟩
            case measure => simp [intOf]; omega
          · obtain ⟨ad, rfl, ha⟩ := hR.out.at_ hlt
            obtain ⟨e, he⟩ : ∃ e, S[k] = e := ⟨_, rfl⟩
            rw [he] at ha HWE HG HO
            have HE := Lib.hid ha
            have HP := Lib.hid ha.1
            have dk : decide ((0 : Int) < (k : Int)) = false := by simp; omega
            obtain ⟨x0, x1, x2, x3, x4, x5, x6, x7, x8, x9, x10, x11, x12, x13⟩ := ha.cells
            clear ha he
            go_wp2_with (go_at_call 17; (with_reducible refine (ledGet_any (w.heap.size + 1) w.heap.size room e.a0 S _ hL.out HWE.out e 0 HG.out).mono ?_); rintro r w5 ⟨rfl, hb5⟩)
            obtain ⟨W0, hW0⟩ : ∃ W0, w5.alloc (.cells #[.int .i64 e.a0, .int .i64 e.a1, .int .i64 e.a2, .int .i64 e.a3, .int .i64 e.a4, .int .i64 e.a5, .int .i64 e.a6, .int .i64 e.a7, .int .i64 e.a8, .int .i64 e.a9, .int .i64 e.a10, .int .i64 e.l, .int .i64 e.i, .bool e.bk] 37) = W0 := ⟨_, rfl⟩
            have hb := hb5.trans (show Below wr.heap.size w5 W0 from by rw [← hW0]; exact (bel1 w5 _).mono hb5.size)
            have HL5 := Lib.hid (hL.out.below hb (Nat.le_refl _))
            have HR5 := Lib.hid (hR.out.below hb (Nat.le_refl _))
            have HB5 := Lib.hid (bT hB.out hb)
            have HY5 : Hid (W0.heap[w5.heap.size]? = some (.cells e.row.toArray 37 (0, 0))) := Lib.hid (by rw [← hW0]; exact heap_alloc_new w5 _)
            have HE5 := Lib.hid (HE.out.below hb (Nat.le_refl _))
            have HP5 := Lib.hid ((hb.cell (World.block_lt_of_cell? wr _ HP.out)).trans HP.out)
            rw [hW0]
            clear hb5 hb hW0 x0 x1 x2 x3 x4 x5 x6 x7 x8 x9 x10 x11 x12 x13
            have hS := fun w9 (h : Below W0.heap.size W0 w9) => la_s0 HY5 HE5 HP5 h
            refine wp_region_held_drew (S := fun w9 => Below W0.heap.size W0 w9 ∧ w9.cell? ⟨w5.heap.size, 0, none⟩ = some (.int .i64 e.a0) ∧ w9.cell? ⟨w5.heap.size, 1, none⟩ = some (.int .i64 e.a1) ∧ w9.cell? ⟨w5.heap.size, 2, none⟩ = some (.int .i64 e.a2) ∧ w9.cell? ⟨w5.heap.size, 3, none⟩ = some (.int .i64 e.a3) ∧ w9.cell? ⟨w5.heap.size, 4, none⟩ = some (.int .i64 e.a4) ∧ w9.cell? ⟨w5.heap.size, 5, none⟩ = some (.int .i64 e.a5) ∧ w9.cell? ⟨w5.heap.size, 6, none⟩ = some (.int .i64 e.a6) ∧ w9.cell? ⟨w5.heap.size, 7, none⟩ = some (.int .i64 e.a7) ∧ w9.cell? ⟨w5.heap.size, 8, none⟩ = some (.int .i64 e.a8) ∧ w9.cell? ⟨w5.heap.size, 9, none⟩ = some (.int .i64 e.a9) ∧ w9.cell? ⟨w5.heap.size, 10, none⟩ = some (.int .i64 e.a10) ∧ w9.cell? ⟨w5.heap.size, 11, none⟩ = some (.int .i64 e.l) ∧ w9.cell? ⟨w5.heap.size, 12, none⟩ = some (.int .i64 e.i) ∧ w9.cell? ⟨w5.heap.size, 13, none⟩ = some (.bool e.bk) ∧ w9.cell? (ad.add (k * 14)) = some (.int .i64 e.a0) ∧ w9.cell? ⟨((ad.add (k * 14))).block, ((ad.add (k * 14))).off + 1, none⟩ = some (.int .i64 e.a1) ∧ w9.cell? ⟨((ad.add (k * 14))).block, ((ad.add (k * 14))).off + 2, none⟩ = some (.int .i64 e.a2) ∧ w9.cell? ⟨((ad.add (k * 14))).block, ((ad.add (k * 14))).off + 3, none⟩ = some (.int .i64 e.a3) ∧ w9.cell? ⟨((ad.add (k * 14))).block, ((ad.add (k * 14))).off + 4, none⟩ = some (.int .i64 e.a4) ∧ w9.cell? ⟨((ad.add (k * 14))).block, ((ad.add (k * 14))).off + 5, none⟩ = some (.int .i64 e.a5) ∧ w9.cell? ⟨((ad.add (k * 14))).block, ((ad.add (k * 14))).off + 6, none⟩ = some (.int .i64 e.a6) ∧ w9.cell? ⟨((ad.add (k * 14))).block, ((ad.add (k * 14))).off + 7, none⟩ = some (.int .i64 e.a7) ∧ w9.cell? ⟨((ad.add (k * 14))).block, ((ad.add (k * 14))).off + 8, none⟩ = some (.int .i64 e.a8) ∧ w9.cell? ⟨((ad.add (k * 14))).block, ((ad.add (k * 14))).off + 9, none⟩ = some (.int .i64 e.a9) ∧ w9.cell? ⟨((ad.add (k * 14))).block, ((ad.add (k * 14))).off + 10, none⟩ = some (.int .i64 e.a10) ∧ w9.cell? ⟨((ad.add (k * 14))).block, ((ad.add (k * 14))).off + 11, none⟩ = some (.int .i64 e.l) ∧ w9.cell? ⟨((ad.add (k * 14))).block, ((ad.add (k * 14))).off + 12, none⟩ = some (.int .i64 e.i) ∧ w9.cell? ⟨((ad.add (k * 14))).block, ((ad.add (k * 14))).off + 13, none⟩ = some (.bool e.bk)) (by kernel_rfl) (hS _ (bD (bR W0))) (fun hHeld => ?_)
            refine wpAnyH_take (i := 0) (oi := ?_) (v := ?_) ?hiu36 (by as_aux_lemma => kernel_rfl) (by as_aux_lemma => kernel_rfl) (by as_aux_lemma => kernel_rfl) ?hQu36 (Or.inl ⟨?hwu36, ?hyu36⟩) hHeld ?restu36
            case hiu36 => simp only [List.getElem?_toArray, List.getElem?_cons_zero, List.getElem?_cons_succ]; rfl
            case hwu36 => rfl
            case hyu36 => (intro w9 hSw; (try dsimp only at hSw); go_simp; (try with_reducible rfl))
            case hQu36 => exact fun _ _ _ h => h
            (try simp only [Act.put, List.setIfInBounds_toArray, List.set_cons_zero, List.set_cons_succ])
            refine wpAnyH_take (i := 1) (oi := ?_) (v := ?_) ?hiu37 (by as_aux_lemma => kernel_rfl) (by as_aux_lemma => kernel_rfl) (by as_aux_lemma => kernel_rfl) ?hQu37 (Or.inl ⟨?hwu37, ?hyu37⟩) hHeld ?restu37
            case hiu37 => simp only [List.getElem?_toArray, List.getElem?_cons_zero, List.getElem?_cons_succ]; rfl
            case hwu37 => rfl
            case hyu37 => (intro w9 hSw; (try dsimp only at hSw); go_simp; (try with_reducible rfl))
            case hQu37 => exact fun _ _ _ h => h
            (try simp only [Act.put, List.setIfInBounds_toArray, List.set_cons_zero, List.set_cons_succ])
            refine wpAnyH_take (i := 2) (oi := ?_) (v := ?_) ?hiu38 (by as_aux_lemma => kernel_rfl) (by as_aux_lemma => kernel_rfl) (by as_aux_lemma => kernel_rfl) ?hQu38 (Or.inl ⟨?hwu38, ?hyu38⟩) hHeld ?restu38
            case hiu38 => simp only [List.getElem?_toArray, List.getElem?_cons_zero, List.getElem?_cons_succ]; rfl
            case hwu38 => rfl
            case hyu38 => (intro w9 hSw; (try dsimp only at hSw); go_simp; (try with_reducible rfl))
            case hQu38 => exact fun _ _ _ h => h
            (try simp only [Act.put, List.setIfInBounds_toArray, List.set_cons_zero, List.set_cons_succ])
            refine wpAnyH_take (i := 3) (oi := ?_) (v := ?_) ?hiu39 (by as_aux_lemma => kernel_rfl) (by as_aux_lemma => kernel_rfl) (by as_aux_lemma => kernel_rfl) ?hQu39 (Or.inl ⟨?hwu39, ?hyu39⟩) hHeld ?restu39
            case hiu39 => simp only [List.getElem?_toArray, List.getElem?_cons_zero, List.getElem?_cons_succ]; rfl
            case hwu39 => rfl
            case hyu39 => (intro w9 hSw; (try dsimp only at hSw); go_simp; (try with_reducible rfl))
            case hQu39 => exact fun _ _ _ h => h
            (try simp only [Act.put, List.setIfInBounds_toArray, List.set_cons_zero, List.set_cons_succ])
            refine wpAnyH_take (i := 4) (oi := ?_) (v := ?_) ?hiu40 (by as_aux_lemma => kernel_rfl) (by as_aux_lemma => kernel_rfl) (by as_aux_lemma => kernel_rfl) ?hQu40 (Or.inl ⟨?hwu40, ?hyu40⟩) hHeld ?restu40
            case hiu40 => simp only [List.getElem?_toArray, List.getElem?_cons_zero, List.getElem?_cons_succ]; rfl
            case hwu40 => rfl
            case hyu40 => (intro w9 hSw; (try dsimp only at hSw); go_simp; (try with_reducible rfl))
            case hQu40 => exact fun _ _ _ h => h
            (try simp only [Act.put, List.setIfInBounds_toArray, List.set_cons_zero, List.set_cons_succ])
            refine wpAnyH_take (i := 5) (oi := ?_) (v := ?_) ?hiu41 (by as_aux_lemma => kernel_rfl) (by as_aux_lemma => kernel_rfl) (by as_aux_lemma => kernel_rfl) ?hQu41 (Or.inl ⟨?hwu41, ?hyu41⟩) hHeld ?restu41
            case hiu41 => simp only [List.getElem?_toArray, List.getElem?_cons_zero, List.getElem?_cons_succ]; rfl
            case hwu41 => rfl
            case hyu41 => (intro w9 hSw; (try dsimp only at hSw); go_simp; (try with_reducible rfl))
            case hQu41 => exact fun _ _ _ h => h
            (try simp only [Act.put, List.setIfInBounds_toArray, List.set_cons_zero, List.set_cons_succ])
            refine wpAnyH_take (i := 6) (oi := ?_) (v := ?_) ?hiu42 (by as_aux_lemma => kernel_rfl) (by as_aux_lemma => kernel_rfl) (by as_aux_lemma => kernel_rfl) ?hQu42 (Or.inl ⟨?hwu42, ?hyu42⟩) hHeld ?restu42
            case hiu42 => simp only [List.getElem?_toArray, List.getElem?_cons_zero, List.getElem?_cons_succ]; rfl
            case hwu42 => rfl
            case hyu42 => (intro w9 hSw; (try dsimp only at hSw); go_simp; (try with_reducible rfl))
            case hQu42 => exact fun _ _ _ h => h
            (try simp only [Act.put, List.setIfInBounds_toArray, List.set_cons_zero, List.set_cons_succ])
            refine wpAnyH_take (i := 7) (oi := ?_) (v := ?_) ?hiu43 (by as_aux_lemma => kernel_rfl) (by as_aux_lemma => kernel_rfl) (by as_aux_lemma => kernel_rfl) ?hQu43 (Or.inl ⟨?hwu43, ?hyu43⟩) hHeld ?restu43
            case hiu43 => simp only [List.getElem?_toArray, List.getElem?_cons_zero, List.getElem?_cons_succ]; rfl
            case hwu43 => rfl
            case hyu43 => (intro w9 hSw; (try dsimp only at hSw); go_simp; (try with_reducible rfl))
            case hQu43 => exact fun _ _ _ h => h
            (try simp only [Act.put, List.setIfInBounds_toArray, List.set_cons_zero, List.set_cons_succ])
            refine wpAnyH_take (i := 8) (oi := ?_) (v := ?_) ?hiu44 (by as_aux_lemma => kernel_rfl) (by as_aux_lemma => kernel_rfl) (by as_aux_lemma => kernel_rfl) ?hQu44 (Or.inl ⟨?hwu44, ?hyu44⟩) hHeld ?restu44
            case hiu44 => simp only [List.getElem?_toArray, List.getElem?_cons_zero, List.getElem?_cons_succ]; rfl
            case hwu44 => rfl
            case hyu44 => (intro w9 hSw; (try dsimp only at hSw); go_simp; (try with_reducible rfl))
            case hQu44 => exact fun _ _ _ h => h
            (try simp only [Act.put, List.setIfInBounds_toArray, List.set_cons_zero, List.set_cons_succ])
            refine wpAnyH_take (i := 9) (oi := ?_) (v := ?_) ?hiu45 (by as_aux_lemma => kernel_rfl) (by as_aux_lemma => kernel_rfl) (by as_aux_lemma => kernel_rfl) ?hQu45 (Or.inl ⟨?hwu45, ?hyu45⟩) hHeld ?restu45
            case hiu45 => simp only [List.getElem?_toArray, List.getElem?_cons_zero, List.getElem?_cons_succ]; rfl
            case hwu45 => rfl
            case hyu45 => (intro w9 hSw; (try dsimp only at hSw); go_simp; (try with_reducible rfl))
            case hQu45 => exact fun _ _ _ h => h
            (try simp only [Act.put, List.setIfInBounds_toArray, List.set_cons_zero, List.set_cons_succ])
            refine wpAnyH_take (i := 10) (oi := ?_) (v := ?_) ?hiu46 (by as_aux_lemma => kernel_rfl) (by as_aux_lemma => kernel_rfl) (by as_aux_lemma => kernel_rfl) ?hQu46 (Or.inl ⟨?hwu46, ?hyu46⟩) hHeld ?restu46
            case hiu46 => simp only [List.getElem?_toArray, List.getElem?_cons_zero, List.getElem?_cons_succ]; rfl
            case hwu46 => rfl
            case hyu46 => (intro w9 hSw; (try dsimp only at hSw); go_simp; (try with_reducible rfl))
            case hQu46 => exact fun _ _ _ h => h
            (try simp only [Act.put, List.setIfInBounds_toArray, List.set_cons_zero, List.set_cons_succ])
            refine wpAnyH_take (i := 11) (oi := ?_) (v := ?_) ?hiu47 (by as_aux_lemma => kernel_rfl) (by as_aux_lemma => kernel_rfl) (by as_aux_lemma => kernel_rfl) ?hQu47 (Or.inl ⟨?hwu47, ?hyu47⟩) hHeld ?restu47
            case hiu47 => simp only [List.getElem?_toArray, List.getElem?_cons_zero, List.getElem?_cons_succ]; rfl
            case hwu47 => rfl
            case hyu47 => (intro w9 hSw; (try dsimp only at hSw); go_simp; (try with_reducible rfl))
            case hQu47 => exact fun _ _ _ h => h
            (try simp only [Act.put, List.setIfInBounds_toArray, List.set_cons_zero, List.set_cons_succ])
            refine wpAnyH_ready (rs := [12]) (by as_aux_lemma => kernel_rfl) (by simp) (AllReadyH.cons (o := ?_) ?hiu48 (fun K hK => ?_) AllReadyH.nil)
            case hiu48 => simp only [List.getElem?_toArray, List.getElem?_cons_zero, List.getElem?_cons_succ]; rfl
            (try rw [if_pos (by rfl)])
            go_wp2_with fail
            refine (ledIs_any e _).mono ?_
            rintro e w6 ⟨he, hb6⟩
            rw [HO.out] at he
            subst he
            dsimp only
            refine hK.out _ _ ?_ (fun hHeld => ?_)
            · exact hS _ (bT hHeld.1 hb6)
            clear hK K
            (try simp only [Act.put, List.setIfInBounds_toArray, List.set_cons_zero, List.set_cons_succ])
            refine wpAnyH_take (i := 13) (oi := ?_) (v := ?_) ?hiu49 (by as_aux_lemma => kernel_rfl) (by as_aux_lemma => kernel_rfl) (by as_aux_lemma => kernel_rfl) ?hQu49 (Or.inl ⟨?hwu49, ?hyu49⟩) hHeld ?restu49
            case hiu49 => simp only [List.getElem?_toArray, List.getElem?_cons_zero, List.getElem?_cons_succ]; rfl
            case hwu49 => rfl
            case hyu49 => (intro w9 hSw; (try dsimp only at hSw); go_simp; (try with_reducible rfl))
            case hQu49 => exact fun _ _ _ h => h
            (try simp only [Act.put, List.setIfInBounds_toArray, List.set_cons_zero, List.set_cons_succ])
            refine wpAnyH_take (i := 14) (oi := ?_) (v := ?_) ?hiu50 (by as_aux_lemma => kernel_rfl) (by as_aux_lemma => kernel_rfl) (by as_aux_lemma => kernel_rfl) ?hQu50 (Or.inl ⟨?hwu50, ?hyu50⟩) hHeld ?restu50
            case hiu50 => simp only [List.getElem?_toArray, List.getElem?_cons_zero, List.getElem?_cons_succ]; rfl
            case hwu50 => rfl
            case hyu50 => (intro w9 hSw; (try dsimp only at hSw); go_simp; (try with_reducible rfl))
            case hQu50 => exact fun _ _ _ h => h
            (try simp only [Act.put, List.setIfInBounds_toArray, List.set_cons_zero, List.set_cons_succ])
            refine wpAnyH_take (i := 15) (oi := ?_) (v := ?_) ?hiu51 (by as_aux_lemma => kernel_rfl) (by as_aux_lemma => kernel_rfl) (by as_aux_lemma => kernel_rfl) ?hQu51 (Or.inl ⟨?hwu51, ?hyu51⟩) hHeld ?restu51
            case hiu51 => simp only [List.getElem?_toArray, List.getElem?_cons_zero, List.getElem?_cons_succ]; rfl
            case hwu51 => rfl
            case hyu51 => (intro w9 hSw; (try dsimp only at hSw); go_simp; (try with_reducible rfl))
            case hQu51 => exact fun _ _ _ h => h
            (try simp only [Act.put, List.setIfInBounds_toArray, List.set_cons_zero, List.set_cons_succ])
            refine wpAnyH_take (i := 16) (oi := ?_) (v := ?_) ?hiu52 (by as_aux_lemma => kernel_rfl) (by as_aux_lemma => kernel_rfl) (by as_aux_lemma => kernel_rfl) ?hQu52 (Or.inl ⟨?hwu52, ?hyu52⟩) hHeld ?restu52
            case hiu52 => simp only [List.getElem?_toArray, List.getElem?_cons_zero, List.getElem?_cons_succ]; rfl
            case hwu52 => rfl
            case hyu52 => (intro w9 hSw; (try dsimp only at hSw); go_simp; (try with_reducible rfl))
            case hQu52 => exact fun _ _ _ h => h
            (try simp only [Act.put, List.setIfInBounds_toArray, List.set_cons_zero, List.set_cons_succ])
            refine wpAnyH_take (i := 17) (oi := ?_) (v := ?_) ?hiu53 (by as_aux_lemma => kernel_rfl) (by as_aux_lemma => kernel_rfl) (by as_aux_lemma => kernel_rfl) ?hQu53 (Or.inl ⟨?hwu53, ?hyu53⟩) hHeld ?restu53
            case hiu53 => simp only [List.getElem?_toArray, List.getElem?_cons_zero, List.getElem?_cons_succ]; rfl
            case hwu53 => rfl
            case hyu53 => (intro w9 hSw; (try dsimp only at hSw); go_simp; (try with_reducible rfl))
            case hQu53 => exact fun _ _ _ h => h
            (try simp only [Act.put, List.setIfInBounds_toArray, List.set_cons_zero, List.set_cons_succ])
            refine wpAnyH_take (i := 18) (oi := ?_) (v := ?_) ?hiu54 (by as_aux_lemma => kernel_rfl) (by as_aux_lemma => kernel_rfl) (by as_aux_lemma => kernel_rfl) ?hQu54 (Or.inl ⟨?hwu54, ?hyu54⟩) hHeld ?restu54
            case hiu54 => simp only [List.getElem?_toArray, List.getElem?_cons_zero, List.getElem?_cons_succ]; rfl
            case hwu54 => rfl
            case hyu54 => (intro w9 hSw; (try dsimp only at hSw); go_simp; (try with_reducible rfl))
            case hQu54 => exact fun _ _ _ h => h
            (try simp only [Act.put, List.setIfInBounds_toArray, List.set_cons_zero, List.set_cons_succ])
            refine wpAnyH_take (i := 19) (oi := ?_) (v := undef) ?hiu55 (by as_aux_lemma => kernel_rfl) (by as_aux_lemma => kernel_rfl) (by as_aux_lemma => kernel_rfl) ?hQu55 (Or.inr ⟨?hwu55, rfl⟩) hHeld ?restu55
            case hiu55 => simp only [List.getElem?_toArray, List.getElem?_cons_zero, List.getElem?_cons_succ]; rfl
            case hwu55 => rfl
            case hQu55 => exact fun _ _ _ h => h
            (try simp only [Act.put, List.setIfInBounds_toArray, List.set_cons_zero, List.set_cons_succ])
            refine wpAnyH_take (i := 20) (oi := ?_) (v := undef) ?hiu56 (by as_aux_lemma => kernel_rfl) (by as_aux_lemma => kernel_rfl) (by as_aux_lemma => kernel_rfl) ?hQu56 (Or.inr ⟨?hwu56, rfl⟩) hHeld ?restu56
            case hiu56 => simp only [List.getElem?_toArray, List.getElem?_cons_zero, List.getElem?_cons_succ]; rfl
            case hwu56 => rfl
            case hQu56 => exact fun _ _ _ h => h
            (try simp only [Act.put, List.setIfInBounds_toArray, List.set_cons_zero, List.set_cons_succ])
            refine wpAnyH_take (i := 21) (oi := ?_) (v := undef) ?hiu57 (by as_aux_lemma => kernel_rfl) (by as_aux_lemma => kernel_rfl) (by as_aux_lemma => kernel_rfl) ?hQu57 (Or.inr ⟨?hwu57, rfl⟩) hHeld ?restu57
            case hiu57 => simp only [List.getElem?_toArray, List.getElem?_cons_zero, List.getElem?_cons_succ]; rfl
            case hwu57 => rfl
            case hQu57 => exact fun _ _ _ h => h
            (try simp only [Act.put, List.setIfInBounds_toArray, List.set_cons_zero, List.set_cons_succ])
            refine wpAnyH_take (i := 22) (oi := ?_) (v := undef) ?hiu58 (by as_aux_lemma => kernel_rfl) (by as_aux_lemma => kernel_rfl) (by as_aux_lemma => kernel_rfl) ?hQu58 (Or.inr ⟨?hwu58, rfl⟩) hHeld ?restu58
            case hiu58 => simp only [List.getElem?_toArray, List.getElem?_cons_zero, List.getElem?_cons_succ]; rfl
            case hwu58 => rfl
            case hQu58 => exact fun _ _ _ h => h
            (try simp only [Act.put, List.setIfInBounds_toArray, List.set_cons_zero, List.set_cons_succ])
            refine wpAnyH_take (i := 23) (oi := ?_) (v := undef) ?hiu59 (by as_aux_lemma => kernel_rfl) (by as_aux_lemma => kernel_rfl) (by as_aux_lemma => kernel_rfl) ?hQu59 (Or.inr ⟨?hwu59, rfl⟩) hHeld ?restu59
            case hiu59 => simp only [List.getElem?_toArray, List.getElem?_cons_zero, List.getElem?_cons_succ]; rfl
            case hwu59 => rfl
            case hQu59 => exact fun _ _ _ h => h
            (try simp only [Act.put, List.setIfInBounds_toArray, List.set_cons_zero, List.set_cons_succ])
            refine wpAnyH_take (i := 24) (oi := ?_) (v := undef) ?hiu60 (by as_aux_lemma => kernel_rfl) (by as_aux_lemma => kernel_rfl) (by as_aux_lemma => kernel_rfl) ?hQu60 (Or.inr ⟨?hwu60, rfl⟩) hHeld ?restu60
            case hiu60 => simp only [List.getElem?_toArray, List.getElem?_cons_zero, List.getElem?_cons_succ]; rfl
            case hwu60 => rfl
            case hQu60 => exact fun _ _ _ h => h
            (try simp only [Act.put, List.setIfInBounds_toArray, List.set_cons_zero, List.set_cons_succ])
            refine wpAnyH_take (i := 25) (oi := ?_) (v := undef) ?hiu61 (by as_aux_lemma => kernel_rfl) (by as_aux_lemma => kernel_rfl) (by as_aux_lemma => kernel_rfl) ?hQu61 (Or.inr ⟨?hwu61, rfl⟩) hHeld ?restu61
            case hiu61 => simp only [List.getElem?_toArray, List.getElem?_cons_zero, List.getElem?_cons_succ]; rfl
            case hwu61 => rfl
            case hQu61 => exact fun _ _ _ h => h
            (try simp only [Act.put, List.setIfInBounds_toArray, List.set_cons_zero, List.set_cons_succ])
            refine wpAnyH_take (i := 26) (oi := ?_) (v := undef) ?hiu62 (by as_aux_lemma => kernel_rfl) (by as_aux_lemma => kernel_rfl) (by as_aux_lemma => kernel_rfl) ?hQu62 (Or.inr ⟨?hwu62, rfl⟩) hHeld ?restu62
            case hiu62 => simp only [List.getElem?_toArray, List.getElem?_cons_zero, List.getElem?_cons_succ]; rfl
            case hwu62 => rfl
            case hQu62 => exact fun _ _ _ h => h
            (try simp only [Act.put, List.setIfInBounds_toArray, List.set_cons_zero, List.set_cons_succ])
            refine wpAnyH_take (i := 27) (oi := ?_) (v := undef) ?hiu63 (by as_aux_lemma => kernel_rfl) (by as_aux_lemma => kernel_rfl) (by as_aux_lemma => kernel_rfl) ?hQu63 (Or.inr ⟨?hwu63, rfl⟩) hHeld ?restu63
            case hiu63 => simp only [List.getElem?_toArray, List.getElem?_cons_zero, List.getElem?_cons_succ]; rfl
            case hwu63 => rfl
            case hQu63 => exact fun _ _ _ h => h
            (try simp only [Act.put, List.setIfInBounds_toArray, List.set_cons_zero, List.set_cons_succ])
            refine wpAnyH_take (i := 28) (oi := ?_) (v := undef) ?hiu64 (by as_aux_lemma => kernel_rfl) (by as_aux_lemma => kernel_rfl) (by as_aux_lemma => kernel_rfl) ?hQu64 (Or.inr ⟨?hwu64, rfl⟩) hHeld ?restu64
            case hiu64 => simp only [List.getElem?_toArray, List.getElem?_cons_zero, List.getElem?_cons_succ]; rfl
            case hwu64 => rfl
            case hQu64 => exact fun _ _ _ h => h
            (try simp only [Act.put, List.setIfInBounds_toArray, List.set_cons_zero, List.set_cons_succ])
            refine wpAnyH_take (i := 29) (oi := ?_) (v := undef) ?hiu65 (by as_aux_lemma => kernel_rfl) (by as_aux_lemma => kernel_rfl) (by as_aux_lemma => kernel_rfl) ?hQu65 (Or.inr ⟨?hwu65, rfl⟩) hHeld ?restu65
            case hiu65 => simp only [List.getElem?_toArray, List.getElem?_cons_zero, List.getElem?_cons_succ]; rfl
            case hwu65 => rfl
            case hQu65 => exact fun _ _ _ h => h
            (try simp only [Act.put, List.setIfInBounds_toArray, List.set_cons_zero, List.set_cons_succ])
            refine wpAnyH_take (i := 30) (oi := ?_) (v := undef) ?hiu66 (by as_aux_lemma => kernel_rfl) (by as_aux_lemma => kernel_rfl) (by as_aux_lemma => kernel_rfl) ?hQu66 (Or.inr ⟨?hwu66, rfl⟩) hHeld ?restu66
            case hiu66 => simp only [List.getElem?_toArray, List.getElem?_cons_zero, List.getElem?_cons_succ]; rfl
            case hwu66 => rfl
            case hQu66 => exact fun _ _ _ h => h
            (try simp only [Act.put, List.setIfInBounds_toArray, List.set_cons_zero, List.set_cons_succ])
            refine wpAnyH_take (i := 31) (oi := ?_) (v := undef) ?hiu67 (by as_aux_lemma => kernel_rfl) (by as_aux_lemma => kernel_rfl) (by as_aux_lemma => kernel_rfl) ?hQu67 (Or.inr ⟨?hwu67, rfl⟩) hHeld ?restu67
            case hiu67 => simp only [List.getElem?_toArray, List.getElem?_cons_zero, List.getElem?_cons_succ]; rfl
            case hwu67 => rfl
            case hQu67 => exact fun _ _ _ h => h
            (try simp only [Act.put, List.setIfInBounds_toArray, List.set_cons_zero, List.set_cons_succ])
            refine wpAnyH_take (i := 32) (oi := ?_) (v := undef) ?hiu68 (by as_aux_lemma => kernel_rfl) (by as_aux_lemma => kernel_rfl) (by as_aux_lemma => kernel_rfl) ?hQu68 (Or.inr ⟨?hwu68, rfl⟩) hHeld ?restu68
            case hiu68 => simp only [List.getElem?_toArray, List.getElem?_cons_zero, List.getElem?_cons_succ]; rfl
            case hwu68 => rfl
            case hQu68 => exact fun _ _ _ h => h
            (try simp only [Act.put, List.setIfInBounds_toArray, List.set_cons_zero, List.set_cons_succ])
            refine wpAnyH_take (i := 33) (oi := ?_) (v := ?_) ?hiu69 (by as_aux_lemma => kernel_rfl) (by as_aux_lemma => kernel_rfl) (by as_aux_lemma => kernel_rfl) ?hQu69 (Or.inl ⟨?hwu69, ?hyu69⟩) hHeld ?restu69
            case hiu69 => simp only [List.getElem?_toArray, List.getElem?_cons_zero, List.getElem?_cons_succ]; rfl
            case hwu69 => rfl
            case hyu69 => (intro w9 hSw; (try dsimp only at hSw); go_simp; (try with_reducible rfl))
            case hQu69 => exact fun _ _ _ h => h
            (try simp only [Act.put, List.setIfInBounds_toArray, List.set_cons_zero, List.set_cons_succ])
            refine wpAnyH_take (i := 34) (oi := ?_) (v := ?_) ?hiu70 (by as_aux_lemma => kernel_rfl) (by as_aux_lemma => kernel_rfl) (by as_aux_lemma => kernel_rfl) ?hQu70 (Or.inl ⟨?hwu70, ?hyu70⟩) hHeld ?restu70
            case hiu70 => simp only [List.getElem?_toArray, List.getElem?_cons_zero, List.getElem?_cons_succ]; rfl
            case hwu70 => rfl
            case hyu70 => (intro w9 hSw; (try dsimp only at hSw); go_simp; (try with_reducible rfl))
            case hQu70 => exact fun _ _ _ h => h
            (try simp only [Act.put, List.setIfInBounds_toArray, List.set_cons_zero, List.set_cons_succ])
            refine wpAnyH_done (by as_aux_lemma => kernel_rfl) ?_ _
            have HL7 := Lib.hid (HL5.out.below hHeld.1 (Nat.le_refl _))
            have HR7 := Lib.hid (HR5.out.below hHeld.1 (Nat.le_refl _))
            have HB7 := Lib.hid (bT HB5.out hHeld.1)
            clear hHeld hS
            go_wp2
            go_roundw
            case rel => exact ⟨k + 1, by omega, by go_num, HL7, HR7, HB7⟩
            case measure => simp [intOf]; omega
        · go_wp2_with (go_at_call 23; (refine (hk _).mono ?_); rintro r w9 ⟨rfl, hb9⟩)
          go_ret
          exact ⟨rfl, bT hB.out hb9⟩
end Go.Proofs.Ytpmfmkkifkpdcaa

/- Layer 24's law LedgerKeeps, walked: what is added is got, all else as before. No condition beyond the example's. -/
import Derived.Test.YtpmfmkkifkpdcaaLedAllLaw
namespace Go.Proofs.Ytpmfmkkifkpdcaa
open Go.RowKit Go.Maps
set_option linter.unusedVariables false
set_option maxRecDepth 100000
set_option linter.unusedSimpArgs false

set_option maxHeartbeats 4000000 in
theorem ledgerKeeps_no (room serial : Int) (A : Option Addr) (c n : Nat) (w : World) (hk : KeptSays) (h : (room < 1 ∨ 64 < room) ∨ 200 < n) :
    Calls Try.prog 4 #[.int .i64 room, .slice A n c, .int .i64 serial] w fun r w' => r = .returned (.bool true) ∧ Below w.heap.size w w' := by
  by_cases hr : room < 1 ∨ 64 < room
  · have HR := Lib.hid hr
    clear hr h
    cases h2 : decide ((200 : Int) < (n : Int))
    all_goals
      go_enter Try.func4, Try.ntmps4
      go_wp2_with (first
        | (go_at_call 11; (with_reducible refine (ledNewNo_any room _ HR.out).mono ?_); rintro r w1 ⟨rfl, rfl⟩)
        | (go_at_call 23; (refine (hk _).mono ?_); rintro r w9 ⟨rfl, hb9⟩))
      go_ret
      exact ⟨rfl, hb9⟩
  · have hr' : 1 ≤ room ∧ room ≤ 64 := by omega
    have h2 : decide ((200 : Int) < (n : Int)) = true := by simp; omega
    have HR := Lib.hid hr'
    clear hr hr' h
    go_enter Try.func4, Try.ntmps4
    go_wp2_with (first
      | (go_at_call 11; (with_reducible refine (ledNew_any room _ HR.out.1 HR.out.2).mono ?_); rintro r w1 ⟨rfl, _, hb1⟩)
      | (go_at_call 23; (refine (hk _).mono ?_); rintro r w9 ⟨rfl, hb9⟩))
    go_ret
    exact ⟨rfl, bT hb1 hb9⟩

/-- What an entry more does to what is got. -/
theorem addR_cases (room : Int) (S : List En) (e : En) (hS : Srt S) (n : Int) :
    (∃ S' z, addR room S e = (S', z) ∧ z = 0 ∧ S'.length = S.length + 1 ∧ (S.length : Int) < room ∧ ((e.a0 = n ∧ gotR S n = (zE, 20) ∧ gotR S' n = (e, 0)) ∨ (e.a0 ≠ n ∧ gotR S' n = gotR S n))) ∨
    (∃ z, addR room S e = (S, z) ∧ z ≠ 0) := by
  unfold addR
  by_cases h1 : e.ok = false
  · exact .inr ⟨1, by rw [if_pos h1], by decide⟩
  · rw [if_neg h1]
    by_cases h2 : (fnd S e.a0).isSome = true
    · exact .inr ⟨10, by rw [if_pos h2], by decide⟩
    · rw [if_neg h2]
      by_cases h3 : room ≤ (S.length : Int)
      · exact .inr ⟨19, by rw [if_pos h3], by decide⟩
      · rw [if_neg h3]
        have hn : fnd S e.a0 = none := by cases hf : fnd S e.a0 <;> simp_all
        have hx := fnd_ins hS (fnd_none (by rw [hn]; rfl)) n
        refine .inl ⟨_, _, rfl, rfl, ins_len e S, by omega, ?_⟩
        by_cases hen : e.a0 = n
        · refine .inl ⟨hen, ?_, ?_⟩
          · subst hen; unfold gotR; rw [hn]
          · unfold gotR; rw [hx, if_pos hen]
        · refine .inr ⟨hen, ?_⟩
          unfold gotR; rw [hx, if_neg hen]

set_option maxHeartbeats 8000000 in
set_option maxRecDepth 100000 in
theorem ledgerKeeps_yes (room serial : Int) (A : Option Addr) (c : Nat) (l : List En) (w : World) (hk : KeptSays) (hr : RdE w A l) (hr1 : 1 ≤ room) (hr2 : room ≤ 64) (hl : l.length ≤ 200) (hw : (Lit.int .i64 serial).wf = true) :
    Calls Try.prog 4 #[.int .i64 room, .slice A l.length c, .int .i64 serial] w fun r w' => r = .returned (.bool true) ∧ Below w.heap.size w w' := by
  have h2 : decide ((200 : Int) < (l.length : Int)) = false := by simp; omega
  have HA := Lib.hid hr
  have hws := Lib.hid hw
  clear hr hw
  go_enter Try.func4, Try.ntmps4
  go_wp2_with (go_at_call 11; (with_reducible refine (ledNew_any room _ hr1 hr2).mono ?_); rintro r w1 ⟨rfl, hL1, hb1⟩; have HL1 := Lib.hid hL1; have HB1 := Lib.hid hb1; clear hL1 hb1)
  go_loopw [9] (fun i wr => ∃ k : Nat, k ≤ l.length ∧ i = .int .i64 k ∧ Hid (Led wr (w.heap.size + 1) w.heap.size room (adds room (l.take k))) ∧ Hid (Below w.heap.size w wr)) (fun i _ => l.length - (intOf i).toNat)
  case atStart => exact ⟨0, Nat.zero_le _, rfl, HL1, HB1⟩
  case round =>
    obtain ⟨k, hkl, rfl, HLa, HBa⟩ := hrel
    by_cases hlt : k < l.length
    · have HT := Lib.hid (adds_take room l k hlt)
      obtain ⟨S, hS⟩ : ∃ S, adds room (l.take k) = S := ⟨_, rfl⟩
      obtain ⟨e, he⟩ : ∃ e, l[k] = e := ⟨_, rfl⟩
      obtain ⟨ad, rfl, _⟩ := HA.out.at_ hlt
      rw [hS, he] at HT
      rw [hS] at HLa
      have HE := Lib.hid he
      have hok := HLa.out.2.2.2.1
      have hS64 := HLa.out.len
      obtain ⟨n, hn⟩ : ∃ n, S.length = n := ⟨_, rfl⟩
      have hLen1 := Lib.hid (fun W (h : Led W (w.heap.size + 1) w.heap.size room S) => ledLen_any (w.heap.size + 1) w.heap.size room S W h)
      rw [hn] at hLen1 hS64
      have ewn : IntKind.i64.wrap ((n : Int) + 1) = (n : Int) + 1 := IntWalk.i64_in _ (by omega)
      rcases addR_cases room S e hok.1 serial with ⟨S', z, hq, hz, hl', hroom, hcase⟩ | ⟨z, hq, hz⟩
      · have hLen2 := Lib.hid (fun W (h : Led W (w.heap.size + 1) w.heap.size room S') => ledLen_any (w.heap.size + 1) w.heap.size room S' W h)
        rw [show ((S'.length : Nat) : Int) = (n : Int) + 1 by omega] at hLen2
        subst hz
        have HQ := Lib.hid hq
        rw [HQ.out] at HT
        have droom : decide (room < (n : Int) + 1) = false := by simp; omega
        rcases hcase with ⟨hser, hg1, hg2⟩ | ⟨hser, hg2⟩
        · have HG1 := Lib.hid hg1
          have HG2 := Lib.hid hg2
          have dser : (e.a0 == serial) = true := by simpa using hser
          clear hS he hok hn hq hl' hroom hser hg1 hg2
          go_wp2_with (first | (go_at_call 17; (with_reducible refine (ledGet_any (w.heap.size + 1) w.heap.size room serial S _ HLa.out hws.out (zE) 20 HG1.out).mono ?_); rintro r w2 ⟨rfl, hb2⟩; have HBy := Lib.hid (Nat.lt_of_lt_of_le HLa.out.ltb hb2.size); have HLb := Lib.hid (HLa.out.below (bA hb2 (.cells #[.int .i64 zE.a0, .int .i64 zE.a1, .int .i64 zE.a2, .int .i64 zE.a3, .int .i64 zE.a4, .int .i64 zE.a5, .int .i64 zE.a6, .int .i64 zE.a7, .int .i64 zE.a8, .int .i64 zE.a9, .int .i64 zE.a10, .int .i64 zE.l, .int .i64 zE.i, .bool zE.bk] 37)) (Nat.le_refl _)); have HBb := Lib.hid (bT HBa.out (bA hb2 (.cells #[.int .i64 zE.a0, .int .i64 zE.a1, .int .i64 zE.a2, .int .i64 zE.a3, .int .i64 zE.a4, .int .i64 zE.a5, .int .i64 zE.a6, .int .i64 zE.a7, .int .i64 zE.a8, .int .i64 zE.a9, .int .i64 zE.a10, .int .i64 zE.l, .int .i64 zE.i, .bool zE.bk] 37))); have HYb := Lib.hid (heap_alloc_new w2 (.cells #[.int .i64 zE.a0, .int .i64 zE.a1, .int .i64 zE.a2, .int .i64 zE.a3, .int .i64 zE.a4, .int .i64 zE.a5, .int .i64 zE.a6, .int .i64 zE.a7, .int .i64 zE.a8, .int .i64 zE.a9, .int .i64 zE.a10, .int .i64 zE.l, .int .i64 zE.i, .bool zE.bk] 37)); clear HLa hb2) | (go_at_call 19; (with_reducible refine (hLen1.out _ HLb.out).mono ?_); rintro r w3 ⟨rfl, hb3⟩; have HLc := Lib.hid (HLb.out.below hb3 (Nat.le_refl _)); have HBc := Lib.hid (bT HBb.out hb3); have HYc := Lib.hid ((hb3.block _ (Array.getElem?_eq_some_iff.1 HYb.out).1).trans HYb.out); obtain ⟨ad2, hA2, ha⟩ := (HA.out.below HBc.out (Nat.le_refl _)).at_ hlt; rw [HE.out] at ha; obtain rfl := Option.some.inj hA2; obtain ⟨x0, x1, x2, x3, x4, x5, x6, x7, x8, x9, x10, x11, x12, x13⟩ := ha.cells; clear ha HLb HYb hb3) | (go_at_call 15; (with_reducible refine (ledAdd_any (w.heap.size + 1) w.heap.size room S e _ HLc.out).mono ?_); rw [HQ.out]; rintro r w4 ⟨rfl, hl4, hg4⟩; have HLd := Lib.hid hl4; have HBd := Lib.hid (HBc.out.trans (below_of_grown hg4 HBc.out.size (Nat.le_refl _))); have HYd := Lib.hid ((hg4.block _ (Array.getElem?_eq_some_iff.1 HYc.out).1 (fun e => by have h1 := Option.some.inj e; have h2 := HBy.out; omega)).trans HYc.out); clear hl4 hg4 HLc HYc x0 x1 x2 x3 x4 x5 x6 x7 x8 x9 x10 x11 x12 x13) | (go_at_call 17; (with_reducible refine (ledGet_any (w.heap.size + 1) w.heap.size room serial S' _ HLd.out hws.out (e) 0 HG2.out).mono ?_); rintro r w5 ⟨rfl, hb5⟩; have hb6 : Below w4.heap.size w4 (w5.alloc (.cells #[.int .i64 e.a0, .int .i64 e.a1, .int .i64 e.a2, .int .i64 e.a3, .int .i64 e.a4, .int .i64 e.a5, .int .i64 e.a6, .int .i64 e.a7, .int .i64 e.a8, .int .i64 e.a9, .int .i64 e.a10, .int .i64 e.l, .int .i64 e.i, .bool e.bk] 37)) := bA hb5 _; have HLe := Lib.hid (HLd.out.below hb6 (Nat.le_refl _)); have HBe := Lib.hid (bT HBd.out hb6); have HYe := Lib.hid ((hb6.block _ (Array.getElem?_eq_some_iff.1 HYd.out).1).trans HYd.out); have HZe : Hid ((w5.alloc (.cells #[.int .i64 e.a0, .int .i64 e.a1, .int .i64 e.a2, .int .i64 e.a3, .int .i64 e.a4, .int .i64 e.a5, .int .i64 e.a6, .int .i64 e.a7, .int .i64 e.a8, .int .i64 e.a9, .int .i64 e.a10, .int .i64 e.l, .int .i64 e.i, .bool e.bk] 37)).heap[w5.heap.size]? = _) := Lib.hid (heap_alloc_new w5 (.cells #[.int .i64 e.a0, .int .i64 e.a1, .int .i64 e.a2, .int .i64 e.a3, .int .i64 e.a4, .int .i64 e.a5, .int .i64 e.a6, .int .i64 e.a7, .int .i64 e.a8, .int .i64 e.a9, .int .i64 e.a10, .int .i64 e.l, .int .i64 e.i, .bool e.bk] 37)); obtain ⟨ad2, hA2, ha⟩ := (HA.out.below HBe.out (Nat.le_refl _)).at_ hlt; rw [HE.out] at ha; obtain rfl := Option.some.inj hA2; have HEA := Lib.hid ha; obtain ⟨x0, x1, x2, x3, x4, x5, x6, x7, x8, x9, x10, x11, x12, x13⟩ := ha.cells; have hrow := HYe.out; have y0 := cell_of_row _ w2.heap.size 0 _ _ _ hrow; have y1 := cell_of_row _ w2.heap.size 1 _ _ _ hrow; have y2 := cell_of_row _ w2.heap.size 2 _ _ _ hrow; have y3 := cell_of_row _ w2.heap.size 3 _ _ _ hrow; have y4 := cell_of_row _ w2.heap.size 4 _ _ _ hrow; have y5 := cell_of_row _ w2.heap.size 5 _ _ _ hrow; have y6 := cell_of_row _ w2.heap.size 6 _ _ _ hrow; have y7 := cell_of_row _ w2.heap.size 7 _ _ _ hrow; have y8 := cell_of_row _ w2.heap.size 8 _ _ _ hrow; have y9 := cell_of_row _ w2.heap.size 9 _ _ _ hrow; have y10 := cell_of_row _ w2.heap.size 10 _ _ _ hrow; have y11 := cell_of_row _ w2.heap.size 11 _ _ _ hrow; have y12 := cell_of_row _ w2.heap.size 12 _ _ _ hrow; have y13 := cell_of_row _ w2.heap.size 13 _ _ _ hrow; clear ha hrow HLd HYd hb5 hb6))
          obtain ⟨W0, hW0⟩ : ∃ W0, w5.alloc (.cells #[.int .i64 e.a0, .int .i64 e.a1, .int .i64 e.a2, .int .i64 e.a3, .int .i64 e.a4, .int .i64 e.a5, .int .i64 e.a6, .int .i64 e.a7, .int .i64 e.a8, .int .i64 e.a9, .int .i64 e.a10, .int .i64 e.l, .int .i64 e.i, .bool e.bk] 37) = W0 := ⟨_, rfl⟩
          rw [hW0] at HLe HBe HYe HZe HEA
          rw [hW0]
          clear hW0 hA2 x0 x1 x2 x3 x4 x5 x6 x7 x8 x9 x10 x11 x12 x13 y0 y1 y2 y3 y4 y5 y6 y7 y8 y9 y10 y11 y12 y13
          have HP := Lib.hid HEA.out.1
          have hS := fun w9 (h : Below W0.heap.size W0 w9) => la_s0 HZe HEA HP h
          refine wp_region_held_drew (S := fun w9 => Below W0.heap.size W0 w9 ∧ w9.cell? ⟨w5.heap.size, 0, none⟩ = some (.int .i64 e.a0) ∧ w9.cell? ⟨w5.heap.size, 1, none⟩ = some (.int .i64 e.a1) ∧ w9.cell? ⟨w5.heap.size, 2, none⟩ = some (.int .i64 e.a2) ∧ w9.cell? ⟨w5.heap.size, 3, none⟩ = some (.int .i64 e.a3) ∧ w9.cell? ⟨w5.heap.size, 4, none⟩ = some (.int .i64 e.a4) ∧ w9.cell? ⟨w5.heap.size, 5, none⟩ = some (.int .i64 e.a5) ∧ w9.cell? ⟨w5.heap.size, 6, none⟩ = some (.int .i64 e.a6) ∧ w9.cell? ⟨w5.heap.size, 7, none⟩ = some (.int .i64 e.a7) ∧ w9.cell? ⟨w5.heap.size, 8, none⟩ = some (.int .i64 e.a8) ∧ w9.cell? ⟨w5.heap.size, 9, none⟩ = some (.int .i64 e.a9) ∧ w9.cell? ⟨w5.heap.size, 10, none⟩ = some (.int .i64 e.a10) ∧ w9.cell? ⟨w5.heap.size, 11, none⟩ = some (.int .i64 e.l) ∧ w9.cell? ⟨w5.heap.size, 12, none⟩ = some (.int .i64 e.i) ∧ w9.cell? ⟨w5.heap.size, 13, none⟩ = some (.bool e.bk) ∧ w9.cell? (ad.add (k * 14)) = some (.int .i64 e.a0) ∧ w9.cell? ⟨((ad.add (k * 14))).block, ((ad.add (k * 14))).off + 1, none⟩ = some (.int .i64 e.a1) ∧ w9.cell? ⟨((ad.add (k * 14))).block, ((ad.add (k * 14))).off + 2, none⟩ = some (.int .i64 e.a2) ∧ w9.cell? ⟨((ad.add (k * 14))).block, ((ad.add (k * 14))).off + 3, none⟩ = some (.int .i64 e.a3) ∧ w9.cell? ⟨((ad.add (k * 14))).block, ((ad.add (k * 14))).off + 4, none⟩ = some (.int .i64 e.a4) ∧ w9.cell? ⟨((ad.add (k * 14))).block, ((ad.add (k * 14))).off + 5, none⟩ = some (.int .i64 e.a5) ∧ w9.cell? ⟨((ad.add (k * 14))).block, ((ad.add (k * 14))).off + 6, none⟩ = some (.int .i64 e.a6) ∧ w9.cell? ⟨((ad.add (k * 14))).block, ((ad.add (k * 14))).off + 7, none⟩ = some (.int .i64 e.a7) ∧ w9.cell? ⟨((ad.add (k * 14))).block, ((ad.add (k * 14))).off + 8, none⟩ = some (.int .i64 e.a8) ∧ w9.cell? ⟨((ad.add (k * 14))).block, ((ad.add (k * 14))).off + 9, none⟩ = some (.int .i64 e.a9) ∧ w9.cell? ⟨((ad.add (k * 14))).block, ((ad.add (k * 14))).off + 10, none⟩ = some (.int .i64 e.a10) ∧ w9.cell? ⟨((ad.add (k * 14))).block, ((ad.add (k * 14))).off + 11, none⟩ = some (.int .i64 e.l) ∧ w9.cell? ⟨((ad.add (k * 14))).block, ((ad.add (k * 14))).off + 12, none⟩ = some (.int .i64 e.i) ∧ w9.cell? ⟨((ad.add (k * 14))).block, ((ad.add (k * 14))).off + 13, none⟩ = some (.bool e.bk)) (by kernel_rfl) (hS _ (bD (bR W0))) (fun hHeld => ?_)
          refine wpAnyH_take (i := 0) (oi := ?_) (v := ?_) ?hiu1 (by as_aux_lemma => kernel_rfl) (by as_aux_lemma => kernel_rfl) (by as_aux_lemma => kernel_rfl) ?hQu1 (Or.inl ⟨?hwu1, ?hyu1⟩) hHeld ?restu1
          case hiu1 => simp only [List.getElem?_toArray, List.getElem?_cons_zero, List.getElem?_cons_succ]; rfl
          case hwu1 => rfl
          case hyu1 => (intro w9 hSw; (try dsimp only at hSw); go_simp; (try with_reducible rfl))
          case hQu1 => exact fun _ _ _ h => h
          (try simp only [Act.put, List.setIfInBounds_toArray, List.set_cons_zero, List.set_cons_succ])
          refine wpAnyH_take (i := 1) (oi := ?_) (v := ?_) ?hiu2 (by as_aux_lemma => kernel_rfl) (by as_aux_lemma => kernel_rfl) (by as_aux_lemma => kernel_rfl) ?hQu2 (Or.inl ⟨?hwu2, ?hyu2⟩) hHeld ?restu2
          case hiu2 => simp only [List.getElem?_toArray, List.getElem?_cons_zero, List.getElem?_cons_succ]; rfl
          case hwu2 => rfl
          case hyu2 => (intro w9 hSw; (try dsimp only at hSw); go_simp; (try with_reducible rfl))
          case hQu2 => exact fun _ _ _ h => h
          (try simp only [Act.put, List.setIfInBounds_toArray, List.set_cons_zero, List.set_cons_succ])
          refine wpAnyH_take (i := 2) (oi := ?_) (v := ?_) ?hiu3 (by as_aux_lemma => kernel_rfl) (by as_aux_lemma => kernel_rfl) (by as_aux_lemma => kernel_rfl) ?hQu3 (Or.inl ⟨?hwu3, ?hyu3⟩) hHeld ?restu3
          case hiu3 => simp only [List.getElem?_toArray, List.getElem?_cons_zero, List.getElem?_cons_succ]; rfl
          case hwu3 => rfl
          case hyu3 => (intro w9 hSw; (try dsimp only at hSw); go_simp; (try with_reducible rfl))
          case hQu3 => exact fun _ _ _ h => h
          (try simp only [Act.put, List.setIfInBounds_toArray, List.set_cons_zero, List.set_cons_succ])
          refine wpAnyH_take (i := 3) (oi := ?_) (v := ?_) ?hiu4 (by as_aux_lemma => kernel_rfl) (by as_aux_lemma => kernel_rfl) (by as_aux_lemma => kernel_rfl) ?hQu4 (Or.inl ⟨?hwu4, ?hyu4⟩) hHeld ?restu4
          case hiu4 => simp only [List.getElem?_toArray, List.getElem?_cons_zero, List.getElem?_cons_succ]; rfl
          case hwu4 => rfl
          case hyu4 => (intro w9 hSw; (try dsimp only at hSw); go_simp; (try with_reducible rfl))
          case hQu4 => exact fun _ _ _ h => h
          (try simp only [Act.put, List.setIfInBounds_toArray, List.set_cons_zero, List.set_cons_succ])
          refine wpAnyH_take (i := 4) (oi := ?_) (v := ?_) ?hiu5 (by as_aux_lemma => kernel_rfl) (by as_aux_lemma => kernel_rfl) (by as_aux_lemma => kernel_rfl) ?hQu5 (Or.inl ⟨?hwu5, ?hyu5⟩) hHeld ?restu5
          case hiu5 => simp only [List.getElem?_toArray, List.getElem?_cons_zero, List.getElem?_cons_succ]; rfl
          case hwu5 => rfl
          case hyu5 => (intro w9 hSw; (try dsimp only at hSw); go_simp; (try with_reducible rfl))
          case hQu5 => exact fun _ _ _ h => h
          (try simp only [Act.put, List.setIfInBounds_toArray, List.set_cons_zero, List.set_cons_succ])
          refine wpAnyH_take (i := 5) (oi := ?_) (v := ?_) ?hiu6 (by as_aux_lemma => kernel_rfl) (by as_aux_lemma => kernel_rfl) (by as_aux_lemma => kernel_rfl) ?hQu6 (Or.inl ⟨?hwu6, ?hyu6⟩) hHeld ?restu6
          case hiu6 => simp only [List.getElem?_toArray, List.getElem?_cons_zero, List.getElem?_cons_succ]; rfl
          case hwu6 => rfl
          case hyu6 => (intro w9 hSw; (try dsimp only at hSw); go_simp; (try with_reducible rfl))
          case hQu6 => exact fun _ _ _ h => h
          (try simp only [Act.put, List.setIfInBounds_toArray, List.set_cons_zero, List.set_cons_succ])
          refine wpAnyH_take (i := 6) (oi := ?_) (v := ?_) ?hiu7 (by as_aux_lemma => kernel_rfl) (by as_aux_lemma => kernel_rfl) (by as_aux_lemma => kernel_rfl) ?hQu7 (Or.inl ⟨?hwu7, ?hyu7⟩) hHeld ?restu7
          case hiu7 => simp only [List.getElem?_toArray, List.getElem?_cons_zero, List.getElem?_cons_succ]; rfl
          case hwu7 => rfl
          case hyu7 => (intro w9 hSw; (try dsimp only at hSw); go_simp; (try with_reducible rfl))
          case hQu7 => exact fun _ _ _ h => h
          (try simp only [Act.put, List.setIfInBounds_toArray, List.set_cons_zero, List.set_cons_succ])
          refine wpAnyH_take (i := 7) (oi := ?_) (v := ?_) ?hiu8 (by as_aux_lemma => kernel_rfl) (by as_aux_lemma => kernel_rfl) (by as_aux_lemma => kernel_rfl) ?hQu8 (Or.inl ⟨?hwu8, ?hyu8⟩) hHeld ?restu8
          case hiu8 => simp only [List.getElem?_toArray, List.getElem?_cons_zero, List.getElem?_cons_succ]; rfl
          case hwu8 => rfl
          case hyu8 => (intro w9 hSw; (try dsimp only at hSw); go_simp; (try with_reducible rfl))
          case hQu8 => exact fun _ _ _ h => h
          (try simp only [Act.put, List.setIfInBounds_toArray, List.set_cons_zero, List.set_cons_succ])
          refine wpAnyH_take (i := 8) (oi := ?_) (v := ?_) ?hiu9 (by as_aux_lemma => kernel_rfl) (by as_aux_lemma => kernel_rfl) (by as_aux_lemma => kernel_rfl) ?hQu9 (Or.inl ⟨?hwu9, ?hyu9⟩) hHeld ?restu9
          case hiu9 => simp only [List.getElem?_toArray, List.getElem?_cons_zero, List.getElem?_cons_succ]; rfl
          case hwu9 => rfl
          case hyu9 => (intro w9 hSw; (try dsimp only at hSw); go_simp; (try with_reducible rfl))
          case hQu9 => exact fun _ _ _ h => h
          (try simp only [Act.put, List.setIfInBounds_toArray, List.set_cons_zero, List.set_cons_succ])
          refine wpAnyH_take (i := 9) (oi := ?_) (v := ?_) ?hiu10 (by as_aux_lemma => kernel_rfl) (by as_aux_lemma => kernel_rfl) (by as_aux_lemma => kernel_rfl) ?hQu10 (Or.inl ⟨?hwu10, ?hyu10⟩) hHeld ?restu10
          case hiu10 => simp only [List.getElem?_toArray, List.getElem?_cons_zero, List.getElem?_cons_succ]; rfl
          case hwu10 => rfl
          case hyu10 => (intro w9 hSw; (try dsimp only at hSw); go_simp; (try with_reducible rfl))
          case hQu10 => exact fun _ _ _ h => h
          (try simp only [Act.put, List.setIfInBounds_toArray, List.set_cons_zero, List.set_cons_succ])
          refine wpAnyH_take (i := 10) (oi := ?_) (v := ?_) ?hiu11 (by as_aux_lemma => kernel_rfl) (by as_aux_lemma => kernel_rfl) (by as_aux_lemma => kernel_rfl) ?hQu11 (Or.inl ⟨?hwu11, ?hyu11⟩) hHeld ?restu11
          case hiu11 => simp only [List.getElem?_toArray, List.getElem?_cons_zero, List.getElem?_cons_succ]; rfl
          case hwu11 => rfl
          case hyu11 => (intro w9 hSw; (try dsimp only at hSw); go_simp; (try with_reducible rfl))
          case hQu11 => exact fun _ _ _ h => h
          (try simp only [Act.put, List.setIfInBounds_toArray, List.set_cons_zero, List.set_cons_succ])
          refine wpAnyH_take (i := 11) (oi := ?_) (v := ?_) ?hiu12 (by as_aux_lemma => kernel_rfl) (by as_aux_lemma => kernel_rfl) (by as_aux_lemma => kernel_rfl) ?hQu12 (Or.inl ⟨?hwu12, ?hyu12⟩) hHeld ?restu12
          case hiu12 => simp only [List.getElem?_toArray, List.getElem?_cons_zero, List.getElem?_cons_succ]; rfl
          case hwu12 => rfl
          case hyu12 => (intro w9 hSw; (try dsimp only at hSw); go_simp; (try with_reducible rfl))
          case hQu12 => exact fun _ _ _ h => h
          (try simp only [Act.put, List.setIfInBounds_toArray, List.set_cons_zero, List.set_cons_succ])
          refine wpAnyH_take (i := 12) (oi := ?_) (v := ?_) ?hiu13 (by as_aux_lemma => kernel_rfl) (by as_aux_lemma => kernel_rfl) (by as_aux_lemma => kernel_rfl) ?hQu13 (Or.inl ⟨?hwu13, ?hyu13⟩) hHeld ?restu13
          case hiu13 => simp only [List.getElem?_toArray, List.getElem?_cons_zero, List.getElem?_cons_succ]; rfl
          case hwu13 => rfl
          case hyu13 => (intro w9 hSw; (try dsimp only at hSw); go_simp; (try with_reducible rfl))
          case hQu13 => exact fun _ _ _ h => h
          (try simp only [Act.put, List.setIfInBounds_toArray, List.set_cons_zero, List.set_cons_succ])
          refine wpAnyH_take (i := 13) (oi := ?_) (v := ?_) ?hiu14 (by as_aux_lemma => kernel_rfl) (by as_aux_lemma => kernel_rfl) (by as_aux_lemma => kernel_rfl) ?hQu14 (Or.inl ⟨?hwu14, ?hyu14⟩) hHeld ?restu14
          case hiu14 => simp only [List.getElem?_toArray, List.getElem?_cons_zero, List.getElem?_cons_succ]; rfl
          case hwu14 => rfl
          case hyu14 => (intro w9 hSw; (try dsimp only at hSw); go_simp; (try with_reducible rfl))
          case hQu14 => exact fun _ _ _ h => h
          (try simp only [Act.put, List.setIfInBounds_toArray, List.set_cons_zero, List.set_cons_succ])
          refine wpAnyH_take (i := 14) (oi := ?_) (v := ?_) ?hiu15 (by as_aux_lemma => kernel_rfl) (by as_aux_lemma => kernel_rfl) (by as_aux_lemma => kernel_rfl) ?hQu15 (Or.inl ⟨?hwu15, ?hyu15⟩) hHeld ?restu15
          case hiu15 => simp only [List.getElem?_toArray, List.getElem?_cons_zero, List.getElem?_cons_succ]; rfl
          case hwu15 => rfl
          case hyu15 => (intro w9 hSw; (try dsimp only at hSw); go_simp; (try with_reducible rfl))
          case hQu15 => exact fun _ _ _ h => h
          (try simp only [Act.put, List.setIfInBounds_toArray, List.set_cons_zero, List.set_cons_succ])
          refine wpAnyH_take (i := 15) (oi := ?_) (v := ?_) ?hiu16 (by as_aux_lemma => kernel_rfl) (by as_aux_lemma => kernel_rfl) (by as_aux_lemma => kernel_rfl) ?hQu16 (Or.inl ⟨?hwu16, ?hyu16⟩) hHeld ?restu16
          case hiu16 => simp only [List.getElem?_toArray, List.getElem?_cons_zero, List.getElem?_cons_succ]; rfl
          case hwu16 => rfl
          case hyu16 => (intro w9 hSw; (try dsimp only at hSw); go_simp; (try with_reducible rfl))
          case hQu16 => exact fun _ _ _ h => h
          (try simp only [Act.put, List.setIfInBounds_toArray, List.set_cons_zero, List.set_cons_succ])
          refine wpAnyH_take (i := 17) (oi := ?_) (v := ?_) ?hiu17 (by as_aux_lemma => kernel_rfl) (by as_aux_lemma => kernel_rfl) (by as_aux_lemma => kernel_rfl) ?hQu17 (Or.inl ⟨?hwu17, ?hyu17⟩) hHeld ?restu17
          case hiu17 => simp only [List.getElem?_toArray, List.getElem?_cons_zero, List.getElem?_cons_succ]; rfl
          case hwu17 => rfl
          case hyu17 => (intro w9 hSw; (try dsimp only at hSw); go_simp; (try with_reducible rfl))
          case hQu17 => exact fun _ _ _ h => h
          (try simp only [Act.put, List.setIfInBounds_toArray, List.set_cons_zero, List.set_cons_succ])
          refine wpAnyH_take (i := 18) (oi := ?_) (v := ?_) ?hiu18 (by as_aux_lemma => kernel_rfl) (by as_aux_lemma => kernel_rfl) (by as_aux_lemma => kernel_rfl) ?hQu18 (Or.inl ⟨?hwu18, ?hyu18⟩) hHeld ?restu18
          case hiu18 => simp only [List.getElem?_toArray, List.getElem?_cons_zero, List.getElem?_cons_succ]; rfl
          case hwu18 => rfl
          case hyu18 => (intro w9 hSw; (try dsimp only at hSw); go_simp; (try with_reducible rfl))
          case hQu18 => exact fun _ _ _ h => h
          (try simp only [Act.put, List.setIfInBounds_toArray, List.set_cons_zero, List.set_cons_succ])
          refine wpAnyH_ready (rs := [16]) (by as_aux_lemma => kernel_rfl) (by simp) (AllReadyH.cons (o := ?_) ?hiu19 (fun K hK => ?_) AllReadyH.nil)
          case hiu19 => simp only [List.getElem?_toArray, List.getElem?_cons_zero, List.getElem?_cons_succ]; rfl
          (try rw [if_pos (by rfl)])
          go_wp2_with fail
          refine (hLen2.out _ (HLe.out.below hHeld.1 (Nat.le_refl _))).mono ?_
          rintro e w6 ⟨rfl, hb6⟩
          dsimp only
          refine hK.out _ _ ?_ (fun hHeld => ?_)
          · exact hS _ (bT hHeld.1 hb6)
          clear hK K
          (try simp only [Act.put, List.setIfInBounds_toArray, List.set_cons_zero, List.set_cons_succ])
          refine wpAnyH_take (i := 19) (oi := ?_) (v := ?_) ?hiu20 (by as_aux_lemma => kernel_rfl) (by as_aux_lemma => kernel_rfl) (by as_aux_lemma => kernel_rfl) ?hQu20 (Or.inl ⟨?hwu20, ?hyu20⟩) hHeld ?restu20
          case hiu20 => simp only [List.getElem?_toArray, List.getElem?_cons_zero, List.getElem?_cons_succ]; rfl
          case hwu20 => rfl
          case hyu20 => (intro w9 hSw; (try dsimp only at hSw); go_simp; (try with_reducible rfl))
          case hQu20 => exact fun _ _ _ h => h
          (try simp only [Act.put, List.setIfInBounds_toArray, List.set_cons_zero, List.set_cons_succ])
          refine wpAnyH_take (i := 20) (oi := ?_) (v := ?_) ?hiu21 (by as_aux_lemma => kernel_rfl) (by as_aux_lemma => kernel_rfl) (by as_aux_lemma => kernel_rfl) ?hQu21 (Or.inl ⟨?hwu21, ?hyu21⟩) hHeld ?restu21
          case hiu21 => simp only [List.getElem?_toArray, List.getElem?_cons_zero, List.getElem?_cons_succ]; rfl
          case hwu21 => rfl
          case hyu21 => (intro w9 hSw; (try dsimp only at hSw); go_simp; (try with_reducible rfl))
          case hQu21 => exact fun _ _ _ h => h
          (try simp only [Act.put, List.setIfInBounds_toArray, List.set_cons_zero, List.set_cons_succ])
          refine wpAnyH_done (by as_aux_lemma => kernel_rfl) ?_ _
          have HL7 := Lib.hid (HLe.out.below hHeld.1 (Nat.le_refl _))
          have HB7 := Lib.hid (bT HBe.out hHeld.1)
          clear hHeld hS
          go_wp2
          go_roundw
          case rel => exact ⟨k + 1, by omega, by go_num, by rw [HT.out]; exact HL7, HB7⟩
          case measure => simp [intOf]; omega
        · obtain ⟨q, z, hg1⟩ : ∃ q z, gotR S serial = (q, z) := ⟨_, _, rfl⟩
          rw [hg1] at hg2
          have HG1 := Lib.hid hg1
          have HG2 := Lib.hid hg2
          have dser : (e.a0 == serial) = false := by simpa using hser
          clear hS he hok hn hq hl' hroom hser hg1 hg2
          go_wp2_with (first | (go_at_call 17; (with_reducible refine (ledGet_any (w.heap.size + 1) w.heap.size room serial S _ HLa.out hws.out (q) z HG1.out).mono ?_); rintro r w2 ⟨rfl, hb2⟩; have HBy := Lib.hid (Nat.lt_of_lt_of_le HLa.out.ltb hb2.size); have HLb := Lib.hid (HLa.out.below (bA hb2 (.cells #[.int .i64 q.a0, .int .i64 q.a1, .int .i64 q.a2, .int .i64 q.a3, .int .i64 q.a4, .int .i64 q.a5, .int .i64 q.a6, .int .i64 q.a7, .int .i64 q.a8, .int .i64 q.a9, .int .i64 q.a10, .int .i64 q.l, .int .i64 q.i, .bool q.bk] 37)) (Nat.le_refl _)); have HBb := Lib.hid (bT HBa.out (bA hb2 (.cells #[.int .i64 q.a0, .int .i64 q.a1, .int .i64 q.a2, .int .i64 q.a3, .int .i64 q.a4, .int .i64 q.a5, .int .i64 q.a6, .int .i64 q.a7, .int .i64 q.a8, .int .i64 q.a9, .int .i64 q.a10, .int .i64 q.l, .int .i64 q.i, .bool q.bk] 37))); have HYb := Lib.hid (heap_alloc_new w2 (.cells #[.int .i64 q.a0, .int .i64 q.a1, .int .i64 q.a2, .int .i64 q.a3, .int .i64 q.a4, .int .i64 q.a5, .int .i64 q.a6, .int .i64 q.a7, .int .i64 q.a8, .int .i64 q.a9, .int .i64 q.a10, .int .i64 q.l, .int .i64 q.i, .bool q.bk] 37)); clear HLa hb2) | (go_at_call 19; (with_reducible refine (hLen1.out _ HLb.out).mono ?_); rintro r w3 ⟨rfl, hb3⟩; have HLc := Lib.hid (HLb.out.below hb3 (Nat.le_refl _)); have HBc := Lib.hid (bT HBb.out hb3); have HYc := Lib.hid ((hb3.block _ (Array.getElem?_eq_some_iff.1 HYb.out).1).trans HYb.out); obtain ⟨ad2, hA2, ha⟩ := (HA.out.below HBc.out (Nat.le_refl _)).at_ hlt; rw [HE.out] at ha; obtain rfl := Option.some.inj hA2; obtain ⟨x0, x1, x2, x3, x4, x5, x6, x7, x8, x9, x10, x11, x12, x13⟩ := ha.cells; clear ha HLb HYb hb3) | (go_at_call 15; (with_reducible refine (ledAdd_any (w.heap.size + 1) w.heap.size room S e _ HLc.out).mono ?_); rw [HQ.out]; rintro r w4 ⟨rfl, hl4, hg4⟩; have HLd := Lib.hid hl4; have HBd := Lib.hid (HBc.out.trans (below_of_grown hg4 HBc.out.size (Nat.le_refl _))); have HYd := Lib.hid ((hg4.block _ (Array.getElem?_eq_some_iff.1 HYc.out).1 (fun e => by have h1 := Option.some.inj e; have h2 := HBy.out; omega)).trans HYc.out); clear hl4 hg4 HLc HYc x0 x1 x2 x3 x4 x5 x6 x7 x8 x9 x10 x11 x12 x13) | (go_at_call 17; (with_reducible refine (ledGet_any (w.heap.size + 1) w.heap.size room serial S' _ HLd.out hws.out (q) z HG2.out).mono ?_); rintro r w5 ⟨rfl, hb5⟩; have hb6 : Below w4.heap.size w4 (w5.alloc (.cells #[.int .i64 q.a0, .int .i64 q.a1, .int .i64 q.a2, .int .i64 q.a3, .int .i64 q.a4, .int .i64 q.a5, .int .i64 q.a6, .int .i64 q.a7, .int .i64 q.a8, .int .i64 q.a9, .int .i64 q.a10, .int .i64 q.l, .int .i64 q.i, .bool q.bk] 37)) := bA hb5 _; have HLe := Lib.hid (HLd.out.below hb6 (Nat.le_refl _)); have HBe := Lib.hid (bT HBd.out hb6); have HYe := Lib.hid ((hb6.block _ (Array.getElem?_eq_some_iff.1 HYd.out).1).trans HYd.out); have HZe : Hid ((w5.alloc (.cells #[.int .i64 q.a0, .int .i64 q.a1, .int .i64 q.a2, .int .i64 q.a3, .int .i64 q.a4, .int .i64 q.a5, .int .i64 q.a6, .int .i64 q.a7, .int .i64 q.a8, .int .i64 q.a9, .int .i64 q.a10, .int .i64 q.l, .int .i64 q.i, .bool q.bk] 37)).heap[w5.heap.size]? = _) := Lib.hid (heap_alloc_new w5 (.cells #[.int .i64 q.a0, .int .i64 q.a1, .int .i64 q.a2, .int .i64 q.a3, .int .i64 q.a4, .int .i64 q.a5, .int .i64 q.a6, .int .i64 q.a7, .int .i64 q.a8, .int .i64 q.a9, .int .i64 q.a10, .int .i64 q.l, .int .i64 q.i, .bool q.bk] 37)); obtain ⟨ad2, hA2, ha⟩ := (HA.out.below HBe.out (Nat.le_refl _)).at_ hlt; rw [HE.out] at ha; obtain rfl := Option.some.inj hA2; have HEA := Lib.hid ha; obtain ⟨x0, x1, x2, x3, x4, x5, x6, x7, x8, x9, x10, x11, x12, x13⟩ := ha.cells; have hrow := HYe.out; have y0 := cell_of_row _ w2.heap.size 0 _ _ _ hrow; have y1 := cell_of_row _ w2.heap.size 1 _ _ _ hrow; have y2 := cell_of_row _ w2.heap.size 2 _ _ _ hrow; have y3 := cell_of_row _ w2.heap.size 3 _ _ _ hrow; have y4 := cell_of_row _ w2.heap.size 4 _ _ _ hrow; have y5 := cell_of_row _ w2.heap.size 5 _ _ _ hrow; have y6 := cell_of_row _ w2.heap.size 6 _ _ _ hrow; have y7 := cell_of_row _ w2.heap.size 7 _ _ _ hrow; have y8 := cell_of_row _ w2.heap.size 8 _ _ _ hrow; have y9 := cell_of_row _ w2.heap.size 9 _ _ _ hrow; have y10 := cell_of_row _ w2.heap.size 10 _ _ _ hrow; have y11 := cell_of_row _ w2.heap.size 11 _ _ _ hrow; have y12 := cell_of_row _ w2.heap.size 12 _ _ _ hrow; have y13 := cell_of_row _ w2.heap.size 13 _ _ _ hrow; clear ha hrow HLd HYd hb5 hb6) | (go_at_call 19; (with_reducible refine (hLen2.out _ HLe.out).mono ?_); rintro r w6 ⟨rfl, hb6⟩; have HLe := Lib.hid (HLe.out.below hb6 (Nat.le_refl _)); have HBe := Lib.hid (bT HBe.out hb6); clear hb6))
          go_roundw
          case rel => exact ⟨k + 1, by omega, by go_num, by rw [HT.out]; exact HLe, HBe⟩
          case measure => simp [intOf]; omega
      · obtain ⟨q, z2, hg1⟩ : ∃ q z2, gotR S serial = (q, z2) := ⟨_, _, rfl⟩
        have HG1 := Lib.hid hg1
        have HG2 := Lib.hid hg1
        have HQ := Lib.hid hq
        rw [HQ.out] at HT
        have dz : (z == 0) = false := by simpa using hz
        have dz2 : (z != 0) = true := by simpa using hz
        have droom : decide (room < (n : Int)) = false := by have := hok.2.2; simp; omega
        clear hS he hok hn hq hz hg1
        go_wp2_with (first | (go_at_call 17; (with_reducible refine (ledGet_any (w.heap.size + 1) w.heap.size room serial S _ HLa.out hws.out (q) z2 HG1.out).mono ?_); rintro r w2 ⟨rfl, hb2⟩; have HBy := Lib.hid (Nat.lt_of_lt_of_le HLa.out.ltb hb2.size); have HLb := Lib.hid (HLa.out.below (bA hb2 (.cells #[.int .i64 q.a0, .int .i64 q.a1, .int .i64 q.a2, .int .i64 q.a3, .int .i64 q.a4, .int .i64 q.a5, .int .i64 q.a6, .int .i64 q.a7, .int .i64 q.a8, .int .i64 q.a9, .int .i64 q.a10, .int .i64 q.l, .int .i64 q.i, .bool q.bk] 37)) (Nat.le_refl _)); have HBb := Lib.hid (bT HBa.out (bA hb2 (.cells #[.int .i64 q.a0, .int .i64 q.a1, .int .i64 q.a2, .int .i64 q.a3, .int .i64 q.a4, .int .i64 q.a5, .int .i64 q.a6, .int .i64 q.a7, .int .i64 q.a8, .int .i64 q.a9, .int .i64 q.a10, .int .i64 q.l, .int .i64 q.i, .bool q.bk] 37))); have HYb := Lib.hid (heap_alloc_new w2 (.cells #[.int .i64 q.a0, .int .i64 q.a1, .int .i64 q.a2, .int .i64 q.a3, .int .i64 q.a4, .int .i64 q.a5, .int .i64 q.a6, .int .i64 q.a7, .int .i64 q.a8, .int .i64 q.a9, .int .i64 q.a10, .int .i64 q.l, .int .i64 q.i, .bool q.bk] 37)); clear HLa hb2) | (go_at_call 19; (with_reducible refine (hLen1.out _ HLb.out).mono ?_); rintro r w3 ⟨rfl, hb3⟩; have HLc := Lib.hid (HLb.out.below hb3 (Nat.le_refl _)); have HBc := Lib.hid (bT HBb.out hb3); have HYc := Lib.hid ((hb3.block _ (Array.getElem?_eq_some_iff.1 HYb.out).1).trans HYb.out); obtain ⟨ad2, hA2, ha⟩ := (HA.out.below HBc.out (Nat.le_refl _)).at_ hlt; rw [HE.out] at ha; obtain rfl := Option.some.inj hA2; obtain ⟨x0, x1, x2, x3, x4, x5, x6, x7, x8, x9, x10, x11, x12, x13⟩ := ha.cells; clear ha HLb HYb hb3) | (go_at_call 15; (with_reducible refine (ledAdd_any (w.heap.size + 1) w.heap.size room S e _ HLc.out).mono ?_); rw [HQ.out]; rintro r w4 ⟨rfl, hl4, hg4⟩; have HLd := Lib.hid hl4; have HBd := Lib.hid (HBc.out.trans (below_of_grown hg4 HBc.out.size (Nat.le_refl _))); have HYd := Lib.hid ((hg4.block _ (Array.getElem?_eq_some_iff.1 HYc.out).1 (fun e => by have h1 := Option.some.inj e; have h2 := HBy.out; omega)).trans HYc.out); clear hl4 hg4 HLc HYc x0 x1 x2 x3 x4 x5 x6 x7 x8 x9 x10 x11 x12 x13) | (go_at_call 17; (with_reducible refine (ledGet_any (w.heap.size + 1) w.heap.size room serial S _ HLd.out hws.out (q) z2 HG2.out).mono ?_); rintro r w5 ⟨rfl, hb5⟩; have hb6 : Below w4.heap.size w4 (w5.alloc (.cells #[.int .i64 q.a0, .int .i64 q.a1, .int .i64 q.a2, .int .i64 q.a3, .int .i64 q.a4, .int .i64 q.a5, .int .i64 q.a6, .int .i64 q.a7, .int .i64 q.a8, .int .i64 q.a9, .int .i64 q.a10, .int .i64 q.l, .int .i64 q.i, .bool q.bk] 37)) := bA hb5 _; have HLe := Lib.hid (HLd.out.below hb6 (Nat.le_refl _)); have HBe := Lib.hid (bT HBd.out hb6); have HYe := Lib.hid ((hb6.block _ (Array.getElem?_eq_some_iff.1 HYd.out).1).trans HYd.out); have HZe : Hid ((w5.alloc (.cells #[.int .i64 q.a0, .int .i64 q.a1, .int .i64 q.a2, .int .i64 q.a3, .int .i64 q.a4, .int .i64 q.a5, .int .i64 q.a6, .int .i64 q.a7, .int .i64 q.a8, .int .i64 q.a9, .int .i64 q.a10, .int .i64 q.l, .int .i64 q.i, .bool q.bk] 37)).heap[w5.heap.size]? = _) := Lib.hid (heap_alloc_new w5 (.cells #[.int .i64 q.a0, .int .i64 q.a1, .int .i64 q.a2, .int .i64 q.a3, .int .i64 q.a4, .int .i64 q.a5, .int .i64 q.a6, .int .i64 q.a7, .int .i64 q.a8, .int .i64 q.a9, .int .i64 q.a10, .int .i64 q.l, .int .i64 q.i, .bool q.bk] 37)); obtain ⟨ad2, hA2, ha⟩ := (HA.out.below HBe.out (Nat.le_refl _)).at_ hlt; rw [HE.out] at ha; obtain rfl := Option.some.inj hA2; have HEA := Lib.hid ha; obtain ⟨x0, x1, x2, x3, x4, x5, x6, x7, x8, x9, x10, x11, x12, x13⟩ := ha.cells; have hrow := HYe.out; have y0 := cell_of_row _ w2.heap.size 0 _ _ _ hrow; have y1 := cell_of_row _ w2.heap.size 1 _ _ _ hrow; have y2 := cell_of_row _ w2.heap.size 2 _ _ _ hrow; have y3 := cell_of_row _ w2.heap.size 3 _ _ _ hrow; have y4 := cell_of_row _ w2.heap.size 4 _ _ _ hrow; have y5 := cell_of_row _ w2.heap.size 5 _ _ _ hrow; have y6 := cell_of_row _ w2.heap.size 6 _ _ _ hrow; have y7 := cell_of_row _ w2.heap.size 7 _ _ _ hrow; have y8 := cell_of_row _ w2.heap.size 8 _ _ _ hrow; have y9 := cell_of_row _ w2.heap.size 9 _ _ _ hrow; have y10 := cell_of_row _ w2.heap.size 10 _ _ _ hrow; have y11 := cell_of_row _ w2.heap.size 11 _ _ _ hrow; have y12 := cell_of_row _ w2.heap.size 12 _ _ _ hrow; have y13 := cell_of_row _ w2.heap.size 13 _ _ _ hrow; clear ha hrow HLd HYd hb5 hb6) | (go_at_call 19; (with_reducible refine (hLen1.out _ HLe.out).mono ?_); rintro r w6 ⟨rfl, hb6⟩; have HLe := Lib.hid (HLe.out.below hb6 (Nat.le_refl _)); have HBe := Lib.hid (bT HBe.out hb6); clear hb6))
        go_roundw
        case rel => exact ⟨k + 1, by omega, by go_num, by rw [HT.out]; exact HLe, HBe⟩
        case measure => simp [intOf]; omega
    · go_wp2_with (go_at_call 23; (refine (hk _).mono ?_); rintro r w9 ⟨rfl, hb9⟩)
      go_ret
      exact ⟨rfl, bT HBa.out hb9⟩
end Go.Proofs.Ytpmfmkkifkpdcaa

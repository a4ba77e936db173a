/- Layer 24: what a ledger's calls do to it and answer, as a list of entries by rising serials. No condition. -/
import Derived.Test.YtpmfmkkifkpdcaaLedMem
import Derived.Deep.RegionHeld3
import Derived.StillTailTactics
namespace Go.Proofs.Ytpmfmkkifkpdcaa
open Go.RowKit Go.Maps
set_option linter.unusedVariables false
set_option maxRecDepth 100000
set_option linter.unusedSimpArgs false

set_option maxHeartbeats 2000000 in
theorem ledIs_any (e : En) (w : World) :
    Calls Try.prog 21 #[.agg #[.int .i64 e.a0, .int .i64 e.a1, .int .i64 e.a2, .int .i64 e.a3, .int .i64 e.a4, .int .i64 e.a5, .int .i64 e.a6, .int .i64 e.a7, .int .i64 e.a8, .int .i64 e.a9, .int .i64 e.a10, .int .i64 e.l, .int .i64 e.i, .bool e.bk]] w fun r w' => r = .returned (.bool e.ok) ∧ Below w.heap.size w w' := by
  go_enter Try.func21, Try.ntmps21
  go_wp2_with (go_at_call 42; (with_reducible refine (jou_any _ _ _ _ _ _ _ _ _ _ _ _ _ _).mono ?_); rintro r w1 ⟨rfl, hb1⟩)
  go_ret
  exact ⟨rfl, (by repeat (first | (with_reducible exact bR _) | (with_reducible refine bT ?_ (by assumption)) | (with_reducible apply bA) | (with_reducible apply bD) | (with_reducible apply bN) | (with_reducible refine bS ?_ (by first | omega | (simp; done) | (simp; omega)))))⟩

theorem ledFull_any (g b : Nat) (room : Int) (S : List En) (w : World) (h : Led w g b room S) :
    Calls Try.prog 20 #[.pointer (some ⟨g, 0, none⟩)] w fun r w' => r = .returned (.bool (decide (room ≤ (S.length : Int)))) ∧ Below w.heap.size w w' := by
  have c0 := cell_of_row _ g 0 _ _ _ h.1
  have c1 := cell_of_row _ g 1 _ _ _ h.1
  have hl := fun W (hb : Below w.heap.size w W) => (h.below hb (Nat.le_refl _)).2.2.1.len
  have HL := Lib.hid hl
  clear hl
  have hS := h.len
  clear h
  have hl3 := fun n => HL.out (w.drewN n) (bN (bR w) n) 3
  go_enter Try.func20, Try.ntmps20
  go_wp2
  go_quiet (fail)
  go_wp2
  go_ret
  exact ⟨rfl, (by repeat (first | (with_reducible exact bR _) | (with_reducible refine bT ?_ (by assumption)) | (with_reducible apply bA) | (with_reducible apply bD) | (with_reducible apply bN) | (with_reducible refine bS ?_ (by first | omega | (simp; done) | (simp; omega)))))⟩
theorem ledLen_any (g b : Nat) (room : Int) (S : List En) (w : World) (h : Led w g b room S) :
    Calls Try.prog 19 #[.pointer (some ⟨g, 0, none⟩)] w fun r w' => r = .returned (.int .i64 (S.length : Int)) ∧ Below w.heap.size w w' := by
  have c0 := cell_of_row _ g 0 _ _ _ h.1
  have c1 := cell_of_row _ g 1 _ _ _ h.1
  have hl2 := h.2.2.1.len 3
  have hS := h.len
  clear h
  go_enter Try.func19, Try.ntmps19
  go_wp2
  go_ret
  exact ⟨rfl, (by repeat (first | (with_reducible exact bR _) | (with_reducible refine bT ?_ (by assumption)) | (with_reducible apply bA) | (with_reducible apply bD) | (with_reducible apply bN) | (with_reducible refine bS ?_ (by first | omega | (simp; done) | (simp; omega)))))⟩

theorem has_s {w1 : World} {g b q : Nat} {room : Int} {S : List En} {n : Int} {x : En} (HL : Hid (Led w1 g b room S)) (HC : Hid (w1.cell? ⟨q, 0, none⟩ = some (.int .i64 n))) (HW : Hid ((Lit.int .i64 n).wf = true)) (HX : Hid ((gotR S n).1 = x)) {w9 : World} (h : Below w1.heap.size w1 w9) :
    Below w1.heap.size w1 w9 ∧ w9.cell? ⟨g, 1, none⟩ = some (.map (some b)) ∧ w9.cell? ⟨q, 0, none⟩ = some (.int .i64 n) ∧ (Instr.lookup 68 (.map (some b)) (.agg #[.int .i64 n]) true).run Try.prog w9 = .ok (.tuple #[.agg #[.int .i64 x.a0, .int .i64 x.a1, .int .i64 x.a2, .int .i64 x.a3, .int .i64 x.a4, .int .i64 x.a5, .int .i64 x.a6, .int .i64 x.a7, .int .i64 x.a8, .int .i64 x.a9, .int .i64 x.a10, .int .i64 x.l, .int .i64 x.i, .bool x.bk], .bool (fnd S n).isSome]) w9 := by
  have hL := HL.out.below h (Nat.le_refl _)
  have hl := hL.2.2.1.look HW.out
  rw [HX.out] at hl
  exact ⟨h, (cell_of_row _ g 1 _ _ _ hL.1).trans rfl, (h.cell (World.block_lt_of_cell? w1 _ HC.out)).trans HC.out, hl⟩

set_option maxHeartbeats 4000000 in
theorem ledHas_any (g b : Nat) (room : Int) (S : List En) (e : En) (w : World) (h : Led w g b room S) :
    Calls Try.prog 40 #[.pointer (some ⟨g, 0, none⟩), .agg #[.int .i64 e.a0, .int .i64 e.a1, .int .i64 e.a2, .int .i64 e.a3, .int .i64 e.a4, .int .i64 e.a5, .int .i64 e.a6, .int .i64 e.a7, .int .i64 e.a8, .int .i64 e.a9, .int .i64 e.a10, .int .i64 e.l, .int .i64 e.i, .bool e.bk]] w fun r w' => r = .returned (.tuple #[.bool (e.ok && (fnd S e.a0).isSome), .int .i64 (if e.ok then 0 else 1)]) ∧ Below w.heap.size w w' := by
  have HL := Lib.hid h
  clear h
  cases ho : e.ok with
  | false =>
    go_enter Try.func40, Try.ntmps40
    go_wp2_with (go_at_call 21; (with_reducible refine (ledIs_any e _).mono ?_); rintro r w1 ⟨he, hb1⟩; rw [ho] at he; subst he)
    go_ret2
    exact ⟨rfl, (by repeat (first | (with_reducible exact bR _) | (with_reducible refine bT ?_ (by assumption)) | (with_reducible apply bA) | (with_reducible apply bD) | (with_reducible apply bN) | (with_reducible refine bS ?_ (by first | omega | (simp; done) | (simp; omega)))))⟩
  | true =>
    have HW := Lib.hid (En.wf ho)
    obtain ⟨x, hx⟩ : ∃ x, (gotR S e.a0).1 = x := ⟨_, rfl⟩
    have HX := Lib.hid hx
    clear hx
    go_enter Try.func40, Try.ntmps40
    go_wp2_with (go_at_call 21; (with_reducible refine (ledIs_any e _).mono ?_); rintro r w1 ⟨he, hb1⟩; rw [ho] at he; subst he; have HL1 := Lib.hid (HL.out.below (bT (bel1 _ _) hb1) (Nat.le_refl _)); have HC1 := Lib.hid ((hb1.cell (p := ⟨w.heap.size, 0, none⟩) (by simp)).trans (cell_of_row _ w.heap.size 0 _ _ _ (heap_alloc_new w _))); have HB1 := Lib.hid (bT (bel1 w _) hb1); clear hb1)
    have hS := has_s HL1 HC1 HW HX (Below.refl w1.heap.size w1)
    go_region_held3 (fun w9 => Below w1.heap.size w1 w9 ∧ w9.cell? ⟨g, 1, none⟩ = some (.map (some b)) ∧ w9.cell? ⟨w.heap.size, 0, none⟩ = some (.int .i64 e.a0) ∧ (Instr.lookup 68 (.map (some b)) (.agg #[.int .i64 e.a0]) true).run Try.prog w9 = .ok (.tuple #[.agg #[.int .i64 x.a0, .int .i64 x.a1, .int .i64 x.a2, .int .i64 x.a3, .int .i64 x.a4, .int .i64 x.a5, .int .i64 x.a6, .int .i64 x.a7, .int .i64 x.a8, .int .i64 x.a9, .int .i64 x.a10, .int .i64 x.l, .int .i64 x.i, .bool x.bk], .bool (fnd S e.a0).isSome]) w9)
      ((refine has_s HL1 HC1 HW HX ?_; exact (by repeat (first | (with_reducible exact bR _) | (with_reducible refine bT ?_ (by assumption)) | (with_reducible apply bA) | (with_reducible apply bD) | (with_reducible apply bN) | (with_reducible refine bS ?_ (by first | omega | (simp; done) | (simp; omega))))))) (fail)
    all_goals (go_wp2; go_ret2; exact ⟨rfl, bT HB1.out (by repeat (first | (with_reducible exact bR _) | (with_reducible refine bT ?_ (by assumption)) | (with_reducible apply bA) | (with_reducible apply bD) | (with_reducible apply bN) | (with_reducible refine bS ?_ (by first | omega | (simp; done) | (simp; omega)))))⟩)

/-- What a call that turns a ledger answers, and leaves. -/
def LedRet (w : World) (g b : Nat) (room : Int) (q : List En × Int) (r : Ending) (w' : World) : Prop :=
  r = .returned (.int .i64 q.2) ∧ Led w' g b room q.1 ∧ w.grownBy w' (some b)
theorem ledRet_same {w w' : World} {g b : Nat} {room z : Int} {S : List En} {q : List En × Int} (h : Led w g b room S) (hb : Below w.heap.size w w') (hq : q = (S, z)) : LedRet w g b room q (.returned (.int .i64 z)) w' := by
  subst hq
  exact ⟨rfl, h.below hb (Nat.le_refl _), grown_of_below hb (Nat.le_refl _) _⟩
theorem ledRet_new {w w' w2 : World} {g b : Nat} {room z : Int} {S S2 : List En} {q : List En × Int} (h : Led w g b room S) (hb : Below w.heap.size w w') (hg : w'.grownBy w2 (some b)) (hm : MapRep w2 b S2) (ho : LedOk room S2) (hq : q = (S2, z)) : LedRet w g b room q (.returned (.int .i64 z)) w2 := by
  subst hq
  have h2 := h.below hb (Nat.le_refl _)
  refine ⟨rfl, ⟨(hg.block g h2.lt (fun e => h2.2.1 (Option.some.inj e))).trans h2.1, h.2.1, hm, ho, h.2.2.2.2⟩, grown_trans (grown_of_below hb (Nat.le_refl _) _) hg⟩

set_option maxHeartbeats 4000000 in
theorem ledAdd_any (g b : Nat) (room : Int) (S : List En) (e : En) (w : World) (h : Led w g b room S) :
    Calls Try.prog 15 #[.pointer (some ⟨g, 0, none⟩), .agg #[.int .i64 e.a0, .int .i64 e.a1, .int .i64 e.a2, .int .i64 e.a3, .int .i64 e.a4, .int .i64 e.a5, .int .i64 e.a6, .int .i64 e.a7, .int .i64 e.a8, .int .i64 e.a9, .int .i64 e.a10, .int .i64 e.l, .int .i64 e.i, .bool e.bk]] w (LedRet w g b room (addR room S e)) := by
  have HL := Lib.hid h
  clear h
  cases ho : e.ok with
  | false =>
    go_enter Try.func15, Try.ntmps15
    go_wp2_with (go_at_call 40; (with_reducible refine (ledHas_any g b room S e _ (HL.out.below (bel1 _ _) (Nat.le_refl _))).mono ?_); rintro r w1 ⟨he, hb1⟩; rw [ho] at he; subst he)
    all_goals (go_ret; exact ledRet_same HL.out (by repeat (first | (with_reducible exact bR _) | (with_reducible refine bT ?_ (by assumption)) | (with_reducible apply bA) | (with_reducible apply bD) | (with_reducible apply bN) | (with_reducible refine bS ?_ (by first | omega | (simp; done) | (simp; omega))))) (by simp [addR, ho]))
  | true =>
    cases hf : (fnd S e.a0).isSome with
    | true =>
      go_enter Try.func15, Try.ntmps15
      go_wp2_with (go_at_call 40; (with_reducible refine (ledHas_any g b room S e _ (HL.out.below (bel1 _ _) (Nat.le_refl _))).mono ?_); rintro r w1 ⟨he, hb1⟩; rw [ho, hf] at he; subst he)
      all_goals (go_ret; exact ledRet_same HL.out (by repeat (first | (with_reducible exact bR _) | (with_reducible refine bT ?_ (by assumption)) | (with_reducible apply bA) | (with_reducible apply bD) | (with_reducible apply bN) | (with_reducible refine bS ?_ (by first | omega | (simp; done) | (simp; omega))))) (by simp [addR, ho, hf]))
    | false =>
      cases hr : decide (room ≤ (S.length : Int)) with
      | true =>
        have hr' := Lib.hid (of_decide_eq_true hr)
        go_enter Try.func15, Try.ntmps15
        go_wp2_with (first
          | (go_at_call 40; (with_reducible refine (ledHas_any g b room S e _ (HL.out.below (bel1 _ _) (Nat.le_refl _))).mono ?_); rintro r w1 ⟨he, hb1⟩; rw [ho, hf] at he; subst he; have HB1 := Lib.hid (bT (bel1 w _) hb1))
          | (go_at_call 20; (with_reducible refine (ledFull_any g b room S _ (HL.out.below HB1.out (Nat.le_refl _))).mono ?_); rintro r w2 ⟨he, hb2⟩; rw [hr] at he; subst he))
        all_goals (go_ret; exact ledRet_same HL.out (by repeat (first | (with_reducible exact bR _) | (with_reducible refine bT ?_ (by assumption)) | (with_reducible apply bA) | (with_reducible apply bD) | (with_reducible apply bN) | (with_reducible refine bS ?_ (by first | omega | (simp; done) | (simp; omega))))) (by simp [addR, ho, hf, hr'.out]))
      | false =>
        have HQ := Lib.hid (show addR room S e = (ins e S, 0) by unfold addR; rw [if_neg (by simp [ho]), if_neg (by simp [hf]), if_neg (of_decide_eq_false hr)])
        go_enter Try.func15, Try.ntmps15
        go_wp2_with (first
          | (go_at_call 40; (with_reducible refine (ledHas_any g b room S e _ (HL.out.below (bel1 _ _) (Nat.le_refl _))).mono ?_); rintro r w1 ⟨he, hb1⟩; rw [ho, hf] at he; subst he; have HB1 := Lib.hid (bT (bel1 w _) hb1); have HE1 := Lib.hid ((hb1.block w.heap.size (by simp)).trans (heap_alloc_new w _)); clear hb1)
          | (go_at_call 20; (with_reducible refine (ledFull_any g b room S _ (HL.out.below HB1.out (Nat.le_refl _))).mono ?_); rintro r w2 ⟨he, hb2⟩; rw [hr] at he; subst he; have HB2 := Lib.hid (bT HB1.out hb2); have HE2 := Lib.hid ((hb2.block w.heap.size (Array.getElem?_eq_some_iff.1 HE1.out).1).trans HE1.out); clear hb2))
        have hL2 := HL.out.below HB2.out (Nat.le_refl _)
        obtain ⟨w3, hrun, hm3, hg3⟩ := MapRep.ins (w := w2.drew) (hL2.2.2.1.keep rfl) hL2.2.2.2.1.1 hL2.2.2.2.1.2.1 (by have := hL2.len; omega) ho hf
        replace hrun : (Instr.mapUpdate 68 (.map (some b)) (.agg #[.int .i64 e.a0]) (.agg #[.int .i64 e.a0, .int .i64 e.a1, .int .i64 e.a2, .int .i64 e.a3, .int .i64 e.a4, .int .i64 e.a5, .int .i64 e.a6, .int .i64 e.a7, .int .i64 e.a8, .int .i64 e.a9, .int .i64 e.a10, .int .i64 e.l, .int .i64 e.i, .bool e.bk])).run Try.prog w2.drew = .ok () w3 := hrun
        have HM3 := Lib.hid hm3
        have HG3 := Lib.hid hg3
        have hc1 : w2.cell? ⟨g, 1, none⟩ = some (.map (some b)) := (cell_of_row _ g 1 _ _ _ hL2.1).trans rfl
        have HO2 := Lib.hid (addR_ok hL2.2.2.2.1 e)
        have hrow := HE2.out
        clear hm3 hg3 hL2
        have he0 := cell_of_row _ w.heap.size 0 _ _ _ hrow
        have he1 := cell_of_row _ w.heap.size 1 _ _ _ hrow
        have he2 := cell_of_row _ w.heap.size 2 _ _ _ hrow
        have he3 := cell_of_row _ w.heap.size 3 _ _ _ hrow
        have he4 := cell_of_row _ w.heap.size 4 _ _ _ hrow
        have he5 := cell_of_row _ w.heap.size 5 _ _ _ hrow
        have he6 := cell_of_row _ w.heap.size 6 _ _ _ hrow
        have he7 := cell_of_row _ w.heap.size 7 _ _ _ hrow
        have he8 := cell_of_row _ w.heap.size 8 _ _ _ hrow
        have he9 := cell_of_row _ w.heap.size 9 _ _ _ hrow
        have he10 := cell_of_row _ w.heap.size 10 _ _ _ hrow
        have he11 := cell_of_row _ w.heap.size 11 _ _ _ hrow
        have he12 := cell_of_row _ w.heap.size 12 _ _ _ hrow
        have he13 := cell_of_row _ w.heap.size 13 _ _ _ hrow
        clear hrow
        go_still_tail 9, (by kernel_rfl)
        go_wp2
        go_ret
        exact ledRet_new HL.out (bD HB2.out) HG3.out HM3.out (by have h := HO2.out; rwa [HQ.out] at h) HQ.out

set_option maxHeartbeats 4000000 in
theorem ledSet_any (g b : Nat) (room : Int) (S : List En) (e : En) (w : World) (h : Led w g b room S) :
    Calls Try.prog 13 #[.pointer (some ⟨g, 0, none⟩), .agg #[.int .i64 e.a0, .int .i64 e.a1, .int .i64 e.a2, .int .i64 e.a3, .int .i64 e.a4, .int .i64 e.a5, .int .i64 e.a6, .int .i64 e.a7, .int .i64 e.a8, .int .i64 e.a9, .int .i64 e.a10, .int .i64 e.l, .int .i64 e.i, .bool e.bk]] w (LedRet w g b room (setR S e)) := by
  have HL := Lib.hid h
  clear h
  cases ho : e.ok with
  | false =>
    go_enter Try.func13, Try.ntmps13
    go_wp2_with (go_at_call 40; (with_reducible refine (ledHas_any g b room S e _ (HL.out.below (bel1 _ _) (Nat.le_refl _))).mono ?_); rintro r w1 ⟨he, hb1⟩; rw [ho] at he; subst he)
    all_goals (go_ret; exact ledRet_same HL.out (by repeat (first | (with_reducible exact bR _) | (with_reducible refine bT ?_ (by assumption)) | (with_reducible apply bA) | (with_reducible apply bD) | (with_reducible apply bN) | (with_reducible refine bS ?_ (by first | omega | (simp; done) | (simp; omega))))) (by simp [setR, ho]))
  | true =>
    cases hf : (fnd S e.a0).isSome with
    | false =>
      go_enter Try.func13, Try.ntmps13
      go_wp2_with (go_at_call 40; (with_reducible refine (ledHas_any g b room S e _ (HL.out.below (bel1 _ _) (Nat.le_refl _))).mono ?_); rintro r w1 ⟨he, hb1⟩; rw [ho, hf] at he; subst he)
      all_goals (go_ret; exact ledRet_same HL.out (by repeat (first | (with_reducible exact bR _) | (with_reducible refine bT ?_ (by assumption)) | (with_reducible apply bA) | (with_reducible apply bD) | (with_reducible apply bN) | (with_reducible refine bS ?_ (by first | omega | (simp; done) | (simp; omega))))) (by simp [setR, ho, hf]))
    | true =>
        have HQ := Lib.hid (show setR S e = (rpl e S, 0) by unfold setR; rw [if_neg (by simp [ho]), if_pos hf])
        go_enter Try.func13, Try.ntmps13
        go_wp2_with (go_at_call 40; (with_reducible refine (ledHas_any g b room S e _ (HL.out.below (bel1 _ _) (Nat.le_refl _))).mono ?_); rintro r w2 ⟨he, hb1⟩; rw [ho, hf] at he; subst he; have HB2 := Lib.hid (bT (bel1 w _) hb1); have HE2 := Lib.hid ((hb1.block w.heap.size (by simp)).trans (heap_alloc_new w _)); clear hb1)
        have hL2 := HL.out.below HB2.out (Nat.le_refl _)
        obtain ⟨w3, hrun, hm3, hg3⟩ := MapRep.rpl (w := w2.drew) (hL2.2.2.1.keep rfl) hL2.2.2.2.1.1 hL2.2.2.2.1.2.1 (by have := hL2.len; omega) ho hf
        replace hrun : (Instr.mapUpdate 68 (.map (some b)) (.agg #[.int .i64 e.a0]) (.agg #[.int .i64 e.a0, .int .i64 e.a1, .int .i64 e.a2, .int .i64 e.a3, .int .i64 e.a4, .int .i64 e.a5, .int .i64 e.a6, .int .i64 e.a7, .int .i64 e.a8, .int .i64 e.a9, .int .i64 e.a10, .int .i64 e.l, .int .i64 e.i, .bool e.bk])).run Try.prog w2.drew = .ok () w3 := hrun
        have HM3 := Lib.hid hm3
        have HG3 := Lib.hid hg3
        have hc1 : w2.cell? ⟨g, 1, none⟩ = some (.map (some b)) := (cell_of_row _ g 1 _ _ _ hL2.1).trans rfl
        have HO2 := Lib.hid (setR_ok hL2.2.2.2.1 e)
        have hrow := HE2.out
        clear hm3 hg3 hL2
        have he0 := cell_of_row _ w.heap.size 0 _ _ _ hrow
        have he1 := cell_of_row _ w.heap.size 1 _ _ _ hrow
        have he2 := cell_of_row _ w.heap.size 2 _ _ _ hrow
        have he3 := cell_of_row _ w.heap.size 3 _ _ _ hrow
        have he4 := cell_of_row _ w.heap.size 4 _ _ _ hrow
        have he5 := cell_of_row _ w.heap.size 5 _ _ _ hrow
        have he6 := cell_of_row _ w.heap.size 6 _ _ _ hrow
        have he7 := cell_of_row _ w.heap.size 7 _ _ _ hrow
        have he8 := cell_of_row _ w.heap.size 8 _ _ _ hrow
        have he9 := cell_of_row _ w.heap.size 9 _ _ _ hrow
        have he10 := cell_of_row _ w.heap.size 10 _ _ _ hrow
        have he11 := cell_of_row _ w.heap.size 11 _ _ _ hrow
        have he12 := cell_of_row _ w.heap.size 12 _ _ _ hrow
        have he13 := cell_of_row _ w.heap.size 13 _ _ _ hrow
        clear hrow
        go_still_tail 9, (by kernel_rfl)
        go_wp2
        go_ret
        exact ledRet_new HL.out (bD HB2.out) HG3.out HM3.out (by have h := HO2.out; rwa [HQ.out] at h) HQ.out

theorem led_rowt {P : Program} {fn : Func} {t u : Tmp} {T ty : TypeId} (h : fn.results = #[.cell t T, .tmp u]) {d : TypeDesc} (hu : P.underlying T = some d) (hd : (match d with | .struct _ | .array _ _ => true | _ => false) = true)
    {tmps : Array Value} {g : Nat} {v : Value} {cs : Array Value} {fr : Nat × Nat} (hp : tmps.getD t undef = .pointer (some ⟨g, 0, none⟩)) (hv : tmps.getD u undef = v) {w : World} (hg : w.heap[g]? = some (.cells cs ty fr)) (hi : (P.info? T).map (·.size) = some cs.size) :
    (results fn tmps).run P w = .ok (.tuple #[.agg cs, v]) w := by
  have hl := run_loadVar_row (P := P) w g ty T cs fr d hg hu hd hi
  simp only [results, h, Array.mapM_eq_mapM_toList, List.mapM_cons, List.mapM_nil]
  simp [Sem.run_bind, hp, hv, asAddr, hl, Result.andThen]
theorem infoEn : (Try.prog.info? 37).map (·.size) = some 14 := by kernel_rfl
set_option maxHeartbeats 4000000 in
theorem ledGet_any (g b : Nat) (room n : Int) (S : List En) (w : World) (h : Led w g b room S) (hw : (Lit.int .i64 n).wf = true) (x : En) (z : Int) (hx : gotR S n = (x, z)) :
    Calls Try.prog 17 #[.pointer (some ⟨g, 0, none⟩), .int .i64 n] w fun r w' => r = .returned (.tuple #[.agg #[.int .i64 x.a0, .int .i64 x.a1, .int .i64 x.a2, .int .i64 x.a3, .int .i64 x.a4, .int .i64 x.a5, .int .i64 x.a6, .int .i64 x.a7, .int .i64 x.a8, .int .i64 x.a9, .int .i64 x.a10, .int .i64 x.l, .int .i64 x.i, .bool x.bk], .int .i64 z]) ∧ Below w.heap.size w w' := by
  have HX := Lib.hid hx
  clear hx
  have HL := Lib.hid h
  clear h
  have hL1 := HL.out.below (bel1 w (.cells #[.int .i64 zE.a0, .int .i64 zE.a1, .int .i64 zE.a2, .int .i64 zE.a3, .int .i64 zE.a4, .int .i64 zE.a5, .int .i64 zE.a6, .int .i64 zE.a7, .int .i64 zE.a8, .int .i64 zE.a9, .int .i64 zE.a10, .int .i64 zE.l, .int .i64 zE.i, .bool zE.bk] 37)) (Nat.le_refl _)
  have hrun := hL1.2.2.1.look hw
  rw [HX.out] at hrun
  replace hrun : (Instr.lookup 68 (.map (some b)) (.agg #[.int .i64 n]) true).run Try.prog (w.alloc (.cells #[.int .i64 zE.a0, .int .i64 zE.a1, .int .i64 zE.a2, .int .i64 zE.a3, .int .i64 zE.a4, .int .i64 zE.a5, .int .i64 zE.a6, .int .i64 zE.a7, .int .i64 zE.a8, .int .i64 zE.a9, .int .i64 zE.a10, .int .i64 zE.l, .int .i64 zE.i, .bool zE.bk] 37)) = .ok (.tuple #[.agg #[.int .i64 x.a0, .int .i64 x.a1, .int .i64 x.a2, .int .i64 x.a3, .int .i64 x.a4, .int .i64 x.a5, .int .i64 x.a6, .int .i64 x.a7, .int .i64 x.a8, .int .i64 x.a9, .int .i64 x.a10, .int .i64 x.l, .int .i64 x.i, .bool x.bk], .bool (fnd S n).isSome]) (w.alloc (.cells #[.int .i64 zE.a0, .int .i64 zE.a1, .int .i64 zE.a2, .int .i64 zE.a3, .int .i64 zE.a4, .int .i64 zE.a5, .int .i64 zE.a6, .int .i64 zE.a7, .int .i64 zE.a8, .int .i64 zE.a9, .int .i64 zE.a10, .int .i64 zE.l, .int .i64 zE.i, .bool zE.bk] 37)) := hrun
  have hc1 : w.cell? ⟨g, 1, none⟩ = some (.map (some b)) := (cell_of_row _ g 1 _ _ _ HL.out.1).trans rfl
  have hlg := HL.out.lt
  clear hL1
  cases hf : fnd S n with
  | none =>
    have HXZ := Lib.hid (show x = zE ∧ z = 20 by have h := HX.out; simp only [gotR, hf, Prod.mk.injEq] at h; exact ⟨h.1.symm, h.2.symm⟩)
    rw [hf] at hrun
    dsimp only [zE, Option.isSome_none] at hrun
    go_enter Try.func17, Try.ntmps17
    go_wp2
    refine bodyPost_ret (led_rowt rfl Try.underlying37 rfl rfl rfl ((Below.block (bel1 _ _) _ (by simp)).trans (heap_alloc_new w _)) (by exact infoEn)) rfl ⟨?_, (by repeat (first | (with_reducible exact bR _) | (with_reducible refine bT ?_ (by assumption)) | (with_reducible apply bA) | (with_reducible apply bD) | (with_reducible apply bN) | (with_reducible refine bS ?_ (by first | omega | (simp; done) | (simp; omega)))))⟩
    obtain ⟨e1, e2⟩ := HXZ.out
    rw [e1, e2] <;> rfl
  | some y =>
    have HXZ := Lib.hid (show x = y ∧ z = 0 by have h := HX.out; simp only [gotR, hf, Prod.mk.injEq] at h; exact ⟨h.1.symm, h.2.symm⟩)
    rw [hf] at hrun
    dsimp only [zE, Option.isSome_some] at hrun
    go_enter Try.func17, Try.ntmps17
    go_wp2
    refine bodyPost_ret (led_rowt rfl Try.underlying37 rfl rfl rfl ((Below.block (bel1 _ _) _ (by simp)).trans (heap_alloc_new w _)) (by exact infoEn)) rfl ⟨?_, (by repeat (first | (with_reducible exact bR _) | (with_reducible refine bT ?_ (by assumption)) | (with_reducible apply bA) | (with_reducible apply bD) | (with_reducible apply bN) | (with_reducible refine bS ?_ (by first | omega | (simp; done) | (simp; omega)))))⟩
    obtain ⟨e1, e2⟩ := HXZ.out
    rw [e1, e2] <;> rfl
end Go.Proofs.Ytpmfmkkifkpdcaa

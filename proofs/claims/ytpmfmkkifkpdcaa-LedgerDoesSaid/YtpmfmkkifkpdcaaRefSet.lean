/- Layer 24, the reference: Set writes an entry in its place. No condition. -/
import Derived.Test.YtpmfmkkifkpdcaaRefLed
import Derived.StillTailTactics
namespace Go.Proofs.Ytpmfmkkifkpdcaa
open Go.RowKit Go.Maps
set_option linter.unusedVariables false
set_option maxRecDepth 100000
set_option linter.unusedSimpArgs false

/-- What a call that turns the document's ledger answers, and leaves. -/
def RRet (w : World) (g : Nat) (room : Int) (q : List En × Int) (r : Ending) (w' : World) : Prop :=
  r = .returned (.int .i64 q.2) ∧ RLed w' g room q.1 ∧ Below g w w'
theorem rret_same {w w' : World} {g : Nat} {room z : Int} {S : List En} {q : List En × Int} (h : RLed w g room S) (hb : Below w.heap.size w w') (hq : q = (S, z)) : RRet w g room q (.returned (.int .i64 z)) w' := by
  subst hq
  exact ⟨rfl, h.below hb (Nat.le_refl _), hb.mono (Nat.le_of_lt h.lt)⟩
theorem rpl_at {S : List En} {e : En} {k : Nat} (hs : Srt S) (hk : k < S.length) (he : S[k].a0 = e.a0) (j : Nat) (hj : j < S.length) : (rpl e S)[j]'(by rw [rpl_len]; exact hj) = if j = k then e else S[j] := by
  unfold rpl
  rw [List.getElem_map]
  by_cases hjk : j = k
  · subst hjk; rw [if_pos he, if_pos rfl]
  · rw [if_neg hjk, if_neg]
    intro h
    rcases Nat.lt_or_gt_of_ne hjk with hl | hl
    · have := List.pairwise_iff_getElem.1 hs j k hj hk hl; omega
    · have := List.pairwise_iff_getElem.1 hs k j hk hj hl; omega
theorem size_setCells (b : Nat) : ∀ (vs : List Value) (o : Nat) (w : World), (w.setCells b o vs).heap.size = w.heap.size
  | [], _, _ => rfl
  | v :: r, o, w => by
    rw [World.setCells, size_setCells b r]
    simp
theorem heap_setCells (b k : Nat) (hk : k ≠ b) : ∀ (vs : List Value) (o : Nat) (w : World), (w.setCells b o vs).heap[k]? = w.heap[k]?
  | [], _, _ => rfl
  | v :: r, o, w => by
    rw [World.setCells, heap_setCells b k hk r]
    exact Below.heap_setCell _ _ _ _ hk
theorem below_setCells {n b : Nat} (hb : n ≤ b) : ∀ (vs : List Value) (o : Nat) (w : World), Below n w (w.setCells b o vs)
  | [], _, w => Below.refl _ _
  | v :: r, o, w => by
    rw [World.setCells]
    exact ((Below.refl n w).setCell (p := ⟨b, o, none⟩) hb v).trans (below_setCells hb r _ _)
theorem rowE_set {w : World} {g b k : Nat} {S : List En} {e : En} (hs : Srt S) (hk : k < S.length) (he : S[k].a0 = e.a0) (h : RowE w g (some ⟨b, 0, none⟩) S) :
    w.there b (k * 14) 14 ∧ g < b ∧ RowE (w.setCells b (k * 14) e.row) g (some ⟨b, 0, none⟩) (rpl e S) := by
  rcases h with h | ⟨b', hb', h1, h2, hc, hf⟩
  · rw [h] at hk; simp at hk
  · have hbb : b = b' := by injection hb' with hb'; injection hb'
    subst hbb
    have hth : w.there b (k * 14) 14 := fun j hj => ⟨by rw [hc k hk j (S[k].row[j]'(by rw [En.row_len]; exact hj)) (List.getElem?_eq_getElem _)]; rfl, hf _⟩
    refine ⟨hth, h1, .inr ⟨b, rfl, h1, by rw [size_setCells]; exact h2, fun j hj i v hv => ?_, fun o => by rw [World.frozen?_setCells]; exact hf o⟩⟩
    have hjl : j < S.length := by rwa [rpl_len] at hj
    have hi : i < 14 := by
      have := (List.getElem?_eq_some_iff.1 hv).1
      rwa [En.row_len] at this
    rw [rpl_at hs hk he j hjl] at hv
    by_cases hjk : j = k
    · subst hjk
      rw [if_pos rfl] at hv
      exact World.rangeAt_setCells_same w b (j * 14) e.row (by rw [En.row_len]; exact hth) i v hv
    · rw [if_neg hjk] at hv
      rw [World.cell?_setCells_out _ _ _ _ _ (fun _ _ => by rw [En.row_len]; show j * 14 + i < k * 14 ∨ k * 14 + 14 ≤ j * 14 + i; omega)]
      exact hc j hjl i v hv

set_option maxHeartbeats 4000000 in
theorem rledSet_any (g : Nat) (room : Int) (S : List En) (e : En) (w : World) (h : RLed w g room S) :
    Calls Try.prog 14 #[.pointer (some ⟨g, 0, none⟩), .agg #[.int .i64 e.a0, .int .i64 e.a1, .int .i64 e.a2, .int .i64 e.a3, .int .i64 e.a4, .int .i64 e.a5, .int .i64 e.a6, .int .i64 e.a7, .int .i64 e.a8, .int .i64 e.a9, .int .i64 e.a10, .int .i64 e.l, .int .i64 e.i, .bool e.bk]] w (RRet w g room (setR S e)) := by
  have HL := Lib.hid h
  have hlen := h.len
  have hlg := h.lt
  clear h
  cases ho : e.ok with
  | false =>
    go_enter Try.func14, Try.ntmps14
    go_wp2_with (go_at_call 22; (with_reducible refine (rledIs_any e _).mono ?_); rintro r w1 ⟨he, hb1⟩; rw [ho] at he; subst he)
    go_ret
    exact rret_same HL.out (by repeat (first | (with_reducible exact bR _) | (with_reducible refine bT ?_ (by assumption)) | (with_reducible apply bA) | (with_reducible apply bD) | (with_reducible apply bN) | (with_reducible refine bS ?_ (by first | omega | (simp; done) | (simp; omega))))) (by simp [setR, ho])
  | true =>
    cases hf : fnd S e.a0 with
    | none =>
      have HF := Lib.hid hf
      go_enter Try.func14, Try.ntmps14
      go_wp2_with (first
        | (go_at_call 22; (with_reducible refine (rledIs_any e _).mono ?_); rintro r w1 ⟨he, hb1⟩; rw [ho] at he; subst he; have HB1 := Lib.hid (bT (bel1 w _) hb1); have hE1 := (hb1.cell (p := ⟨w.heap.size, 0, none⟩) (by simp)).trans (cell_of_row _ w.heap.size 0 _ _ _ (heap_alloc_new w _)); clear hb1)
        | (go_at_call 41; (refine (place_led g room e.a0 S _ (HL.out.below HB1.out (Nat.le_refl _))).mono ?_); rintro r w2 ⟨i, rfl, hp, hb2⟩; have hi : i = -1 := plc_none HF.out hp; subst hi; have HB2 := Lib.hid (bT HB1.out hb2); clear hp hb2))
      go_ret
      exact rret_same HL.out HB2.out (by simp [setR, ho, hf])
    | some y =>
      have HF := Lib.hid hf
      have HQ := Lib.hid (show setR S e = (rpl e S, 0) by unfold setR; rw [if_neg (by simp [ho]), if_pos (by rw [hf]; rfl)])
      clear hf
      go_enter Try.func14, Try.ntmps14
      go_wp2_with (first
        | (go_at_call 22; (with_reducible refine (rledIs_any e _).mono ?_); rintro r w1 ⟨he, hb1⟩; rw [ho] at he; subst he; have HB1 := Lib.hid (bT (bel1 w _) hb1); have HE1 := Lib.hid ((hb1.block w.heap.size (by simp)).trans (heap_alloc_new w _)); have hE1 := (hb1.cell (p := ⟨w.heap.size, 0, none⟩) (by simp)).trans (cell_of_row _ w.heap.size 0 _ _ _ (heap_alloc_new w _)); clear hb1)
        | (go_at_call 41; (refine (place_led g room e.a0 S _ (HL.out.below HB1.out (Nat.le_refl _))).mono ?_); rintro r w2 ⟨i, rfl, hp, hb2⟩; obtain ⟨k, hkk, hks, hky⟩ := plc_some HF.out hp; subst hkk; have HB2 := Lib.hid (bT HB1.out hb2); have HE2 := Lib.hid ((hb2.block w.heap.size (Array.getElem?_eq_some_iff.1 HE1.out).1).trans HE1.out); have HKY := Lib.hid hky; clear hE1 hp hb2 hky))
      obtain ⟨A, c, h1, h2, h3, h4, h5, h6, h7⟩ := HL.out.below HB2.out (Nat.le_refl _)
      have c1 : w2.cell? ⟨g, 1, none⟩ = some (.slice A S.length c) := (cell_of_row _ g 1 _ _ _ h1).trans rfl
      have hAx : ∃ b, A = some ⟨b, 0, none⟩ := by
        rcases h2 with h | ⟨b, rfl, _⟩
        · rw [h] at hks; simp at hks
        · exact ⟨b, rfl⟩
      obtain ⟨b, rfl⟩ := hAx
      have hea : S[k].a0 = e.a0 := by rw [HKY.out]; exact (fnd_some HF.out).2
      have HR := Lib.hid (rowE_set (w := w2.drew) h3.1 hks hea (h2.keep (Nat.le_refl _) (fun _ _ _ => rfl)))
      obtain ⟨ad, hAd⟩ : ∃ ad, (⟨b, 0, none⟩ : Addr) = ad := ⟨_, rfl⟩
      have HAD := Lib.hid hAd
      have HST := Lib.hid (And.intro h1 (And.intro h3 (And.intro h4 (And.intro h5 (And.intro h6 h7)))))
      have hrow := HE2.out
      have he0 := cell_of_row _ w.heap.size 0 _ _ _ hrow
      have he1 := cell_of_row _ w.heap.size 1 _ _ _ hrow
      have he2 := cell_of_row _ w.heap.size 2 _ _ _ hrow
      have he3 := cell_of_row _ w.heap.size 3 _ _ _ hrow
      have he4 := cell_of_row _ w.heap.size 4 _ _ _ hrow
      have he5 := cell_of_row _ w.heap.size 5 _ _ _ hrow
      have he6 := cell_of_row _ w.heap.size 6 _ _ _ hrow
      have he7 := cell_of_row _ w.heap.size 7 _ _ _ hrow
      have he8 := cell_of_row _ w.heap.size 8 _ _ _ hrow
      have he9 := cell_of_row _ w.heap.size 9 _ _ _ hrow
      have he10 := cell_of_row _ w.heap.size 10 _ _ _ hrow
      have he11 := cell_of_row _ w.heap.size 11 _ _ _ hrow
      have he12 := cell_of_row _ w.heap.size 12 _ _ _ hrow
      have he13 := cell_of_row _ w.heap.size 13 _ _ _ hrow
      rw [hAd] at c1
      clear hAd h1 h2 h3 h4 h5 h6 h7 hea hrow
      go_still_tail 7, (by kernel_rfl)
      refine wpList_store_mid rfl 37 _ _ rfl b (k * 14) #[.int .i64 e.a0, .int .i64 e.a1, .int .i64 e.a2, .int .i64 e.a3, .int .i64 e.a4, .int .i64 e.a5, .int .i64 e.a6, .int .i64 e.a7, .int .i64 e.a8, .int .i64 e.a9, .int .i64 e.a10, .int .i64 e.l, .int .i64 e.i, .bool e.bk] (by show Value.pointer (some (ad.add (k * 14))) = _; rw [← HAD.out, add_new]) rfl ?_ ?_ ?_ ?_
      · exact HR.out.1
      · exact infoEn
      · simp [Value.oneCell']
      have HW := Lib.hid (show Below w.heap.size w w2.drew from bD HB2.out)
      clear c1 he0 he1 he2 he3 he4 he5 he6 he7 he8 he9 he10 he11 he12 he13
      obtain ⟨w4, hw4⟩ : ∃ w4, w2.drew.setCells b (k * 14) e.row = w4 := ⟨_, rfl⟩
      show wpList _ _ _ _ _ (w2.drew.setCells b (k * 14) e.row)
      rw [hw4]
      have HW4 := Lib.hid hw4
      clear hw4
      go_wp2
      go_ret
      obtain ⟨h1, h3, h4, h5, h6, h7⟩ := HST.out
      have hgb := HR.out.2.1
      rw [HQ.out]
      refine ⟨rfl, ⟨some ⟨b, 0, none⟩, c, ?_, ?_, ?_, h4, h5, by rw [rpl_len]; exact h6, h7⟩, ?_⟩
      · rw [rpl_len, ← HW4.out, heap_setCells _ _ (by omega)]; exact h1
      · rw [← HW4.out]; exact HR.out.2.2
      · have := setR_ok h3 e; rw [HQ.out] at this; exact this
      · rw [← HW4.out]; exact (HW.out.mono (Nat.le_of_lt hlg)).trans (below_setCells (Nat.le_of_lt hgb) _ _ _)
end Go.Proofs.Ytpmfmkkifkpdcaa

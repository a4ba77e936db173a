/- Layer 24, the reference: what the document's ledger is, its entries in a row by rising serials. No condition. -/
import Derived.Test.YtpmfmkkifkpdcaaLedSame
import Derived.Test.YtpmfmkkifkpdcaaRefJou
import Derived.Laws.CopyOwn
import Derived.Deep.MidRow
namespace Go.Proofs.Ytpmfmkkifkpdcaa
open Go.RowKit Go.Maps
set_option linter.unusedVariables false
set_option maxRecDepth 100000
set_option linter.unusedSimpArgs false

/-- A row of entries of its own, behind block g. -/
def RowE (w : World) (g : Nat) (A : Option Addr) (S : List En) : Prop :=
  S = [] ∨ ∃ b, A = some ⟨b, 0, none⟩ ∧ g < b ∧ b < w.heap.size ∧ (∀ j, (h : j < S.length) → ∀ i v, S[j].row[i]? = some v → w.cell? ⟨b, j * 14 + i, none⟩ = some v) ∧ ∀ o, w.frozen? ⟨b, o, none⟩ = false
theorem RowE.of_own {w : World} {base g c : Nat} {A : Option Addr} {S : List En} (h : w.ownsRow base 37 14 (.slice A S.length c) S.length (rowsOf S)) (hg : g < base) : RowE w g A S := by
  by_cases hS : S = []
  · exact .inl hS
  · have hp : 0 < S.length := List.length_pos_iff.mpr hS
    rcases h.2 with ⟨_, h0⟩ | ⟨b, cap, cur, hv, hb, hh, _⟩
    · omega
    · have hA : A = some ⟨b, 0, none⟩ := by injection hv
      subst hA
      refine .inr ⟨b, rfl, by omega, (h.lt b rfl).2, fun j hj i v hv => ?_, fun o => by simp [World.frozen?, hh]⟩
      have hi : i < 14 := by
        have := (List.getElem?_eq_some_iff.1 hv).1
        rwa [En.row_len] at this
      have hc := h.cells rfl (j * 14 + i) v (by rw [rowsOf_at S j hj i hi]; exact hv)
      rwa [add_new] at hc
theorem RowE.rd {w : World} {g : Nat} {A : Option Addr} {S : List En} (h : RowE w g A S) : RdE w A S := by
  rcases h with h | ⟨b, rfl, _, hb, hc, _⟩
  · exact .inl h
  · refine .inr ⟨_, rfl, hb, fun j hj => ?_⟩
    rw [add_new]
    exact ⟨hc j hj 0 _ rfl, fun k v hv => hc j hj (k + 1) v hv⟩
theorem RowE.keep {w w' : World} {g : Nat} {A : Option Addr} {S : List En} (h : RowE w g A S) (hs : w.heap.size ≤ w'.heap.size) (hb : ∀ b, g < b → b < w.heap.size → w'.heap[b]? = w.heap[b]?) : RowE w' g A S := by
  rcases h with h | ⟨b, rfl, h1, h2, hc, hf⟩
  · exact .inl h
  · have e := hb b h1 h2
    exact .inr ⟨b, rfl, h1, Nat.lt_of_lt_of_le h2 hs, fun j hj i v hv => (World.cell?_of_block e).trans (hc j hj i v hv), fun o => (World.frozen?_of_block e).trans (hf o)⟩
/-- Block g is the document's ledger of that room, that has just these entries. -/
def RLed (w : World) (g : Nat) (room : Int) (S : List En) : Prop :=
  ∃ A c, w.heap[g]? = some (.cells #[.int .i64 room, .slice A S.length c] 42 (0, 0)) ∧ RowE w g A S ∧ LedOk room S ∧ 1 ≤ room ∧ room ≤ 64 ∧ S.length ≤ c ∧ c ≤ 9223372036854775807
theorem RLed.lt {w : World} {g : Nat} {room : Int} {S : List En} (h : RLed w g room S) : g < w.heap.size := by
  obtain ⟨A, c, h1, _⟩ := h
  exact (Array.getElem?_eq_some_iff.1 h1).1
theorem RLed.below {w w' : World} {g n : Nat} {room : Int} {S : List En} (h : RLed w g room S) (hb : Below n w w') (hn : w.heap.size ≤ n) : RLed w' g room S := by
  have hl := h.lt
  obtain ⟨A, c, h1, h2, h3⟩ := h
  exact ⟨A, c, (hb.block g (by omega)).trans h1, h2.keep hb.size (fun b _ hbl => hb.block b (by omega)), h3⟩
theorem RLed.grown {w w' : World} {g b : Nat} {room : Int} {S : List En} (h : RLed w g room S) (hg : w.grownBy w' (some b)) (hb : b < g) : RLed w' g room S := by
  have hl := h.lt
  obtain ⟨A, c, h1, h2, h3⟩ := h
  exact ⟨A, c, (hg.block g hl (fun e => by have := Option.some.inj e; omega)).trans h1, h2.keep hg.size (fun q hq hql => hg.block q hql (fun e => by have := Option.some.inj e; omega)), h3⟩
theorem RLed.len {w : World} {g : Nat} {room : Int} {S : List En} (h : RLed w g room S) : S.length ≤ 64 := by
  obtain ⟨A, c, _, _, h3, h4, h5, _⟩ := h
  have := h3.2.2
  omega

set_option maxHeartbeats 2000000 in
theorem rledIs_any (e : En) (w : World) :
    Calls Try.prog 22 #[.agg #[.int .i64 e.a0, .int .i64 e.a1, .int .i64 e.a2, .int .i64 e.a3, .int .i64 e.a4, .int .i64 e.a5, .int .i64 e.a6, .int .i64 e.a7, .int .i64 e.a8, .int .i64 e.a9, .int .i64 e.a10, .int .i64 e.l, .int .i64 e.i, .bool e.bk]] w fun r w' => r = .returned (.bool e.ok) ∧ Below w.heap.size w w' := by
  go_enter Try.func22, Try.ntmps22
  go_wp2_with (go_at_call 43; (with_reducible refine (refJou_any _ _ _ _ _ _ _ _ _ _ _ _ _ _).mono ?_); rintro r w1 ⟨rfl, hb1⟩)
  go_ret
  exact ⟨rfl, (by repeat (first | (with_reducible exact bR _) | (with_reducible refine bT ?_ (by assumption)) | (with_reducible apply bA) | (with_reducible apply bD) | (with_reducible apply bN) | (with_reducible refine bS ?_ (by first | omega | (simp; done) | (simp; omega)))))⟩
theorem rledNew_any (room : Int) (w : World) (h1 : 1 ≤ room) (h2 : room ≤ 64) :
    Calls Try.prog 12 #[.int .i64 room] w fun r w' => r = .returned (.tuple #[.pointer (some ⟨w.heap.size, 0, none⟩), .int .i64 0]) ∧ RLed w' w.heap.size room [] ∧ Below w.heap.size w w' := by
  go_enter Try.func12, Try.ntmps12
  go_wp2
  go_ret2
  exact ⟨rfl, ⟨none, 0, heap_alloc_new w _, .inl rfl, ⟨List.Pairwise.nil, (fun e he => by cases he), (by simp; omega)⟩, h1, h2, by simp, by simp⟩, bel1 _ _⟩
theorem rledNewNo_any (room : Int) (w : World) (h : room < 1 ∨ 64 < room) :
    Calls Try.prog 12 #[.int .i64 room] w fun r w' => r = .returned (.tuple #[.pointer none, .int .i64 1]) ∧ w = w' := by
  by_cases h1 : room < 1
  · go_enter Try.func12, Try.ntmps12
    go_wp2
    go_ret2
    exact ⟨rfl, rfl⟩
  · have h2 : 64 < room := by omega
    have d : decide (room < 1) = false := by simpa using h1
    go_enter Try.func12, Try.ntmps12
    go_wp2
    go_ret2
    exact ⟨rfl, rfl⟩

/-- Where a serial's entry stands. -/
def plc (S : List En) (n : Int) (i : Int) : Prop := (fnd S n = none ∧ i = -1) ∨ ∃ k : Nat, i = k ∧ ∃ h : k < S.length, S[k].a0 = n ∧ fnd S n = some S[k]
theorem fnd_at {S : List En} {n : Int} {k : Nat} (hk : k < S.length) (he : S[k].a0 = n) (hs : Srt S) : fnd S n = some S[k] := (fnd_iff hs).2 ⟨List.getElem_mem hk, he⟩
set_option maxHeartbeats 2000000 in
theorem place_led (g : Nat) (room n : Int) (S : List En) (w : World) (h : RLed w g room S) :
    Calls Try.prog 41 #[.pointer (some ⟨g, 0, none⟩), .int .i64 n] w fun r w' => ∃ i, r = .returned (.int .i64 i) ∧ plc S n i ∧ Below w.heap.size w w' := by
  have hlen := h.len
  obtain ⟨A, c, h1, h2, h3, _⟩ := h
  have hS := Lib.hid h3.1
  have HR := Lib.hid h2.rd
  have c1 := (cell_of_row _ g 1 _ _ _ h1).trans rfl
  have HC := Lib.hid c1
  clear h1 h2 h3 c1
  go_enter Try.func41, Try.ntmps41
  go_wp2
  go_loopw [5] (fun i wr => ∃ k : Nat, k ≤ S.length ∧ i = .int .i64 k ∧ Hid (∀ q, (hq : q < S.length) → q < k → S[q].a0 ≠ n) ∧ Hid (Below w.heap.size w wr)) (fun i _ => S.length - (intOf i).toNat)
  case atStart => exact ⟨0, Nat.zero_le _, rfl, Lib.hid (fun q _ h => by omega), Lib.hid (bR w)⟩
  case round =>
    obtain ⟨k, hkl, rfl, hQ, hB⟩ := hrel
    have c1 := (hB.out.cell (World.block_lt_of_cell? w _ HC.out)).trans HC.out
    by_cases hlt : k < S.length
    · obtain ⟨ad, rfl, ha⟩ := (HR.out.below hB.out (Nat.le_refl _)).at_ hlt
      obtain ⟨e, he⟩ : ∃ e, S[k] = e := ⟨_, rfl⟩
      have x1 := ha.1
      rw [he] at x1
      have HE := Lib.hid he
      clear ha he
      by_cases hen : e.a0 = n
      · have d : (e.a0 == n) = true := by simpa using hen
        have HEN := Lib.hid hen
        clear hen
        go_wp2
        go_ret
        exact ⟨k, rfl, .inr ⟨k, rfl, hlt, by rw [HE.out]; exact HEN.out, fnd_at hlt (by rw [HE.out]; exact HEN.out) hS.out⟩, hB.out⟩
      · have d : (e.a0 == n) = false := by simpa using hen
        have HEN := Lib.hid hen
        clear hen
        go_wp2
        go_roundw
        case rel => exact ⟨k + 1, by omega, by go_num, Lib.hid (fun q hq h => by
          by_cases hqk : q = k
          · subst hqk; rw [HE.out]; exact HEN.out
          · exact hQ.out q hq (by omega)), hB⟩
        case measure => simp [intOf]; omega
    · have hnone : fnd S n = none := by
        cases hf : fnd S n with
        | none => rfl
        | some x =>
          obtain ⟨hx, hxn⟩ := fnd_some hf
          obtain ⟨q, hq, hqx⟩ := List.getElem_of_mem hx
          exact absurd (by rw [hqx]; exact hxn) (hQ.out q hq (by omega))
      have HN := Lib.hid hnone
      clear hnone
      go_wp2
      go_ret
      exact ⟨-1, rfl, .inl ⟨HN.out, rfl⟩, hB.out⟩

theorem plc_none {S : List En} {n i : Int} (hn : fnd S n = none) (h : plc S n i) : i = -1 := by
  rcases h with ⟨_, h⟩ | ⟨k, _, _, _, h⟩
  · exact h
  · rw [hn] at h; cases h
theorem plc_some {S : List En} {n i : Int} {y : En} (hn : fnd S n = some y) (h : plc S n i) : ∃ k : Nat, i = k ∧ ∃ h : k < S.length, S[k] = y := by
  rcases h with ⟨h, _⟩ | ⟨k, hk, hks, _, h⟩
  · rw [hn] at h; cases h
  · rw [hn] at h; exact ⟨k, hk, hks, (Option.some.inj h).symm⟩
set_option maxHeartbeats 4000000 in
theorem rledGet_any (g : Nat) (room n : Int) (S : List En) (w : World) (h : RLed w g room S) (x : En) (z : Int) (hx : gotR S n = (x, z)) :
    Calls Try.prog 18 #[.pointer (some ⟨g, 0, none⟩), .int .i64 n] w fun r w' => r = .returned (.tuple #[.agg #[.int .i64 x.a0, .int .i64 x.a1, .int .i64 x.a2, .int .i64 x.a3, .int .i64 x.a4, .int .i64 x.a5, .int .i64 x.a6, .int .i64 x.a7, .int .i64 x.a8, .int .i64 x.a9, .int .i64 x.a10, .int .i64 x.l, .int .i64 x.i, .bool x.bk], .int .i64 z]) ∧ Below w.heap.size w w' := by
  have HP := Lib.hid (place_led g room n S _ (h.below (bel1 w (.cells #[.int .i64 zE.a0, .int .i64 zE.a1, .int .i64 zE.a2, .int .i64 zE.a3, .int .i64 zE.a4, .int .i64 zE.a5, .int .i64 zE.a6, .int .i64 zE.a7, .int .i64 zE.a8, .int .i64 zE.a9, .int .i64 zE.a10, .int .i64 zE.l, .int .i64 zE.i, .bool zE.bk] 37)) (Nat.le_refl _)))
  have hlen := h.len
  have hlg := h.lt
  obtain ⟨A, c, h1, h2, h3, _⟩ := h
  have HR := Lib.hid h2.rd
  have HC := Lib.hid (show w.cell? ⟨g, 1, none⟩ = some (.slice A S.length c) from (cell_of_row _ g 1 _ _ _ h1).trans rfl)
  have HS := Lib.hid h3.1
  have HX := Lib.hid hx
  clear h1 h2 h3 hx
  by_cases hn : fnd S n = none
  · have HXZ := Lib.hid (show x = zE ∧ z = 20 by have h := HX.out; simp only [gotR, hn, Prod.mk.injEq] at h; exact ⟨h.1.symm, h.2.symm⟩)
    have HN := Lib.hid hn
    clear hn
    go_enter Try.func18, Try.ntmps18
    go_wp2_with (first
      | (go_at_call 41; (refine HP.out.mono ?_); rintro r w1 ⟨i, rfl, hp, hb1⟩; have hi : i = -1 := plc_none HN.out hp; subst hi; have HB1 := Lib.hid (bT (bel1 w _) hb1); have HG1 := Lib.hid ((hb1.block w.heap.size (by simp)).trans (heap_alloc_new w _)); clear hp hb1)
      | (refine wpList_store_row rfl 37 _ _ rfl w.heap.size #[.int .i64 zE.a0, .int .i64 zE.a1, .int .i64 zE.a2, .int .i64 zE.a3, .int .i64 zE.a4, .int .i64 zE.a5, .int .i64 zE.a6, .int .i64 zE.a7, .int .i64 zE.a8, .int .i64 zE.a9, .int .i64 zE.a10, .int .i64 zE.l, .int .i64 zE.i, .bool zE.bk] rfl rfl 37 _ HG1.out ?_ ?_ ?_ ?_; (focus (exact infoEn)); (focus rfl); (focus (simp [Value.oneCell']))))
    refine bodyPost_ret (led_rowt rfl Try.underlying37 rfl rfl rfl (setRow_heap _ _ _ _ _ _ HG1.out) (by exact infoEn)) rfl ⟨?_, below_setRow HB1.out (Nat.le_refl _) _⟩
    obtain ⟨e1, e2⟩ := HXZ.out
    rw [e1, e2] <;> rfl
  · obtain ⟨y, hy⟩ : ∃ y, fnd S n = some y := by cases hf : fnd S n with | none => exact absurd hf hn | some y => exact ⟨y, rfl⟩
    have HXZ := Lib.hid (show x = y ∧ z = 0 by have h := HX.out; simp only [gotR, hy, Prod.mk.injEq] at h; exact ⟨h.1.symm, h.2.symm⟩)
    have HN := Lib.hid hy
    clear hn hy
    go_enter Try.func18, Try.ntmps18
    go_wp2_with (first
      | (go_at_call 41; (refine HP.out.mono ?_); rintro r w1 ⟨i, rfl, hp, hb1⟩; obtain ⟨k, hkk, hks, hky⟩ := plc_some HN.out hp; subst hkk; have HB1 := Lib.hid (bT (bel1 w _) hb1); have HG1 := Lib.hid ((hb1.block w.heap.size (by simp)).trans (heap_alloc_new w _)); have hc1 : w1.cell? ⟨g, 1, none⟩ = some (.slice A S.length c) := (hb1.cell (by simp; omega)).trans (((bel1 w _).cell hlg).trans HC.out); obtain ⟨ad, rfl, ha⟩ := (HR.out.below HB1.out (Nat.le_refl _)).at_ hks; rw [hky] at ha; obtain ⟨x0, x1, x2, x3, x4, x5, x6, x7, x8, x9, x10, x11, x12, x13⟩ := ha.cells; clear hp hb1 ha hky)
      | (refine wpList_store_row rfl 37 _ _ rfl w.heap.size #[.int .i64 y.a0, .int .i64 y.a1, .int .i64 y.a2, .int .i64 y.a3, .int .i64 y.a4, .int .i64 y.a5, .int .i64 y.a6, .int .i64 y.a7, .int .i64 y.a8, .int .i64 y.a9, .int .i64 y.a10, .int .i64 y.l, .int .i64 y.i, .bool y.bk] rfl rfl 37 _ HG1.out ?_ ?_ ?_ ?_; (focus (exact infoEn)); (focus rfl); (focus (simp [Value.oneCell']))))
    refine bodyPost_ret (led_rowt rfl Try.underlying37 rfl rfl rfl (setRow_heap _ _ _ _ _ _ HG1.out) (by exact infoEn)) rfl ⟨?_, below_setRow HB1.out (Nat.le_refl _) _⟩
    obtain ⟨e1, e2⟩ := HXZ.out
    rw [e1, e2] <;> rfl
end Go.Proofs.Ytpmfmkkifkpdcaa

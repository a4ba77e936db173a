/- Layer 24, the reference: Add lays a row anew, with an entry more in its place. No condition. -/
import Derived.Test.YtpmfmkkifkpdcaaRefSet
import Derived.Deep.QuietTactic
import Derived.BigQuiet
namespace Go.Proofs.Ytpmfmkkifkpdcaa
open Go.RowKit Go.Maps
set_option linter.unusedVariables false
set_option maxRecDepth 100000
set_option linter.unusedSimpArgs false

theorem ins_last {e : En} : ∀ {S : List En}, (∀ x ∈ S, ¬ e.a0 < x.a0) → ins e S = S ++ [e]
  | [], _ => rfl
  | x :: r, h => by
    unfold ins
    rw [if_neg (h x (by simp)), ins_last fun y hy => h y (by simp [hy])]
    rfl
theorem ins_snoc_lt {e x : En} (hx : e.a0 < x.a0) : ∀ {T : List En}, (∀ y ∈ T, ¬ e.a0 < y.a0) → ins e (T ++ [x]) = (T ++ [e]) ++ [x]
  | [], _ => by simp [ins, hx]
  | y :: r, h => by
    show ins e (y :: (r ++ [x])) = _
    unfold ins
    rw [if_neg (h y (by simp)), ins_snoc_lt hx fun z hz => h z (by simp [hz])]
    rfl
theorem ins_snoc_in {e x : En} : ∀ {T : List En}, (∃ y ∈ T, e.a0 < y.a0) → ins e (T ++ [x]) = ins e T ++ [x]
  | [], h => by obtain ⟨y, hy, _⟩ := h; cases hy
  | y :: r, h => by
    show ins e (y :: (r ++ [x])) = _
    unfold ins
    by_cases hy : e.a0 < y.a0
    · rw [if_pos hy, if_pos hy]; rfl
    · rw [if_neg hy, if_neg hy]
      obtain ⟨z, hz, hlt⟩ := h
      rw [ins_snoc_in ⟨z, (List.mem_cons.1 hz).resolve_left (fun q => by subst q; exact hy hlt), hlt⟩]
      rfl
/-- What has been laid, when k entries are gone by. -/
def Mid (S : List En) (e : En) (k : Nat) (pb : Bool) (C : List En) : Prop :=
  (pb = false ∧ C = S.take k ∧ ∀ y ∈ S.take k, ¬ e.a0 < y.a0) ∨ (pb = true ∧ C = ins e (S.take k) ∧ ∃ y ∈ S.take k, e.a0 < y.a0)
theorem mid_start (S : List En) (e : En) : Mid S e 0 false [] := .inl ⟨rfl, by simp, by simp⟩
theorem mid_put {S C : List En} {e : En} {k : Nat} (hk : k < S.length) (h : Mid S e k false C) (hx : e.a0 < S[k].a0) : Mid S e (k + 1) true ((C ++ [e]) ++ [S[k]]) := by
  rcases h with ⟨_, rfl, h⟩ | ⟨h, _⟩
  · refine .inr ⟨rfl, ?_, S[k], by rw [List.take_succ_eq_append_getElem hk]; exact List.mem_append.2 (.inr (List.mem_singleton.2 rfl)), hx⟩
    rw [List.take_succ_eq_append_getElem hk, ins_snoc_lt hx h]
  · cases h
theorem mid_stay {S C : List En} {e : En} {k : Nat} (hk : k < S.length) (h : Mid S e k false C) (hx : ¬ e.a0 < S[k].a0) : Mid S e (k + 1) false (C ++ [S[k]]) := by
  rcases h with ⟨_, rfl, h⟩ | ⟨h, _⟩
  · refine .inl ⟨rfl, by rw [List.take_succ_eq_append_getElem hk], fun y hy => ?_⟩
    rw [List.take_succ_eq_append_getElem hk] at hy
    rcases List.mem_append.1 hy with hy | hy
    · exact h y hy
    · rw [List.mem_singleton.1 hy]; exact hx
  · cases h
theorem mid_on {S C : List En} {e : En} {k : Nat} (hk : k < S.length) (h : Mid S e k true C) : Mid S e (k + 1) true (C ++ [S[k]]) := by
  rcases h with ⟨h, _⟩ | ⟨_, rfl, h⟩
  · cases h
  · refine .inr ⟨rfl, by rw [List.take_succ_eq_append_getElem hk, ins_snoc_in h], ?_⟩
    obtain ⟨y, hy, hlt⟩ := h
    exact ⟨y, by rw [List.take_succ_eq_append_getElem hk]; exact List.mem_append.2 (.inl hy), hlt⟩
theorem mid_end {S C : List En} {e : En} {pb : Bool} (h : Mid S e S.length pb C) : (if pb then C else C ++ [e]) = ins e S := by
  rw [Mid, List.take_length] at h
  rcases h with ⟨rfl, rfl, h⟩ | ⟨rfl, rfl, _⟩
  · exact (ins_last h).symm
  · rfl
theorem mid_len {S C : List En} {e : En} {pb : Bool} {k : Nat} (h : Mid S e k pb C) : C.length ≤ S.length + 1 := by
  have := List.length_take_le k S
  have h2 : (S.take k).length ≤ S.length := by simp; omega
  rcases h with ⟨_, rfl, _⟩ | ⟨_, rfl, _⟩
  · omega
  · rw [ins_len]; omega

theorem app_next {w3 W w' : World} {B : Nat} {v v' : Value} {C : List En} {X : En} {o : Obj} (hb : Below B w3 W) (hB : B ≤ W.heap.size) (hrow : W.ownsRow B 37 14 v C.length (rowsOf C))
    (ho : w'.ownsRow B 37 14 v' (C.length + 1) (rowsOf C ++ X.row)) (hg : (W.alloc o).grownBy w' v.ownBlock) :
    w'.ownsRow B 37 14 v' (C ++ [X]).length (rowsOf (C ++ [X])) ∧ Below B w3 w' ∧ B ≤ w'.heap.size := by
  have h1 := hg.size
  rw [World.size_alloc] at h1
  refine ⟨by rw [rowsOf_append, List.length_append]; simpa [rowsOf] using ho, (hb.alloc hB o).grown hg (by rw [World.size_alloc]; omega) (fun k hk => (hrow.lt k hk).1), by omega⟩
/-- What stands in memory all through the loop. -/
theorem add_keep {w w3 : World} {g B : Nat} {A : Option Addr} {c n : Nat} {S : List En} {e : En} {T : TypeId} (HR : Hid (RowE w g A S)) (HC1 : Hid (w.cell? ⟨g, 1, none⟩ = some (.slice A n c))) (HB3 : Hid (Below w.heap.size w w3)) (HE3 : Hid (w3.heap[w.heap.size]? = some (.cells e.row.toArray T (0, 0)))) (hlg : g < w.heap.size) (hB : w.heap.size < B)
    {W : World} (h : Below B w3 W) : W.cell? ⟨g, 1, none⟩ = some (.slice A n c) ∧ RdE W A S ∧ W.heap[w.heap.size]? = some (.cells e.row.toArray T (0, 0)) := by
  have hb := HB3.out.trans (h.mono (Nat.le_of_lt hB))
  exact ⟨(hb.cell (p := ⟨g, 1, none⟩) hlg).trans HC1.out, HR.out.rd.below hb (Nat.le_refl _), (h.block _ hB).trans HE3.out⟩

theorem ref_rowset {w : World} {g : Nat} {cs : Array Value} {T : TypeId} {fr : Nat × Nat} (h : w.heap[g]? = some (.cells cs T fr)) (k : Nat) (v : Value) : (w.setCell ⟨g, k, none⟩ v).heap[g]? = some (.cells (cs.setIfInBounds k v) T fr) := by
  unfold World.setCell
  simp [Array.getElem?_modify, h]
theorem own_sliceE {w : World} {base e n : Nat} {v : Value} {cs : List Value} (h : w.ownsRow base e 14 v n cs) : ∃ A c, v = .slice A n c ∧ n ≤ c ∧ c ≤ 9223372036854775807 := by
  rcases h.2 with ⟨rfl, rfl⟩ | ⟨g, cap, cur, rfl, _, _, h1, h2, _⟩
  · exact ⟨none, 0, rfl, Nat.le_refl _, by omega⟩
  · unfold maxLen at h2; exact ⟨_, cap, rfl, h1, by omega⟩
theorem add_fin {w W : World} {g B n c : Nat} {room : Int} {A : Option Addr} {v : Value} {S C : List En} {e : En} (hrow : W.ownsRow B 37 14 v C.length (rowsOf C)) (hC : C = ins e S) (hQ : addR room S e = (ins e S, 0))
    (hg : W.heap[g]? = some (.cells #[.int .i64 room, .slice A n c] 42 (0, 0))) (hgB : g < B) (hok : LedOk room S ∧ 1 ≤ room ∧ room ≤ 64) (hb : Below g w W) :
    RRet w g room (addR room S e) (.returned (.int .i64 0)) (W.setCell ⟨g, 1, none⟩ v) := by
  rw [hQ]
  subst hC
  obtain ⟨A2, c2, rfl, k1, k2⟩ := own_sliceE hrow
  have hok2 := addR_ok hok.1 e
  rw [hQ] at hok2
  refine ⟨rfl, ⟨A2, c2, ?_, ?_, hok2, hok.2.1, hok.2.2, k1, k2⟩, hb.trans ((Below.refl g W).setCell (p := ⟨g, 1, none⟩) (Nat.le_refl _) _)⟩
  · have h := ref_rowset hg 1 (.slice A2 (ins e S).length c2)
    exact h
  · exact (RowE.of_own hrow hgB).keep (by simp) (fun b hb _ => Below.heap_setCell _ _ _ _ (by show b ≠ g; omega))

set_option maxHeartbeats 8000000 in
set_option maxRecDepth 100000 in
theorem rledAdd_any (g : Nat) (room : Int) (S : List En) (e : En) (w : World) (h : RLed w g room S) :
    Calls Try.prog 16 #[.pointer (some ⟨g, 0, none⟩), .agg #[.int .i64 e.a0, .int .i64 e.a1, .int .i64 e.a2, .int .i64 e.a3, .int .i64 e.a4, .int .i64 e.a5, .int .i64 e.a6, .int .i64 e.a7, .int .i64 e.a8, .int .i64 e.a9, .int .i64 e.a10, .int .i64 e.l, .int .i64 e.i, .bool e.bk]] w (RRet w g room (addR room S e)) := by
  have HL := Lib.hid h
  have hlen := h.len
  have hlg := h.lt
  clear h
  cases ho : e.ok with
  | false =>
    go_enter Try.func16, Try.ntmps16
    go_wp2_with (go_at_call 22; (with_reducible refine (rledIs_any e _).mono ?_); rintro r w1 ⟨he, hb1⟩; rw [ho] at he; subst he)
    go_ret
    exact rret_same HL.out (by repeat (first | (with_reducible exact bR _) | (with_reducible refine bT ?_ (by assumption)) | (with_reducible apply bA) | (with_reducible apply bD) | (with_reducible apply bN) | (with_reducible refine bS ?_ (by first | omega | (simp; done) | (simp; omega))))) (by simp [addR, ho])
  | true =>
    cases hf : fnd S e.a0 with
    | some y =>
      have HF := Lib.hid hf
      go_enter Try.func16, Try.ntmps16
      go_wp2_with (first
        | (go_at_call 22; (with_reducible refine (rledIs_any e _).mono ?_); rintro r w1 ⟨he, hb1⟩; rw [ho] at he; subst he; have HB1 := Lib.hid (bT (bel1 w _) hb1); have hE1 := (hb1.cell (p := ⟨w.heap.size, 0, none⟩) (by simp)).trans (cell_of_row _ w.heap.size 0 _ _ _ (heap_alloc_new w _)); clear hb1)
        | (go_at_call 41; (refine (place_led g room e.a0 S _ (HL.out.below HB1.out (Nat.le_refl _))).mono ?_); rintro r w2 ⟨i, rfl, hp, hb2⟩; obtain ⟨k, hkk, hks, hky⟩ := plc_some HF.out hp; subst hkk; have HB2 := Lib.hid (bT HB1.out hb2); have dk : (0 : Int) ≤ (k : Int) := (by omega); clear hp hb2 hky))
      go_ret
      exact rret_same HL.out HB2.out (by simp [addR, ho, hf])
    | none =>
      have HF := Lib.hid hf
      obtain ⟨A, c, h1, h2, h3, h4, h5, h6, h7⟩ := HL.out
      have HR := Lib.hid h2
      have HC0 := Lib.hid ((cell_of_row _ g 0 _ _ _ h1).trans (show _ = some (.int .i64 room) from rfl))
      have HC1 := Lib.hid ((cell_of_row _ g 1 _ _ _ h1).trans (show _ = some (.slice A S.length c) from rfl))
      have HG := Lib.hid h1
      have HOK := Lib.hid (And.intro h3 (And.intro h4 h5))
      clear h1 h2 h3 h4 h5 h6 h7
      by_cases hr : room ≤ (S.length : Int)
      · have HQ := Lib.hid (show addR room S e = (S, 19) by unfold addR; rw [if_neg (by simp [ho]), if_neg (by simp [hf]), if_pos hr])
        clear hf
        go_enter Try.func16, Try.ntmps16
        go_wp2_with (first
          | (go_at_call 22; (with_reducible refine (rledIs_any e _).mono ?_); rintro r w1 ⟨he, hb1⟩; rw [ho] at he; subst he; have HB1 := Lib.hid (bT (bel1 w _) hb1); have hE1 := (hb1.cell (p := ⟨w.heap.size, 0, none⟩) (by simp)).trans (cell_of_row _ w.heap.size 0 _ _ _ (heap_alloc_new w _)); clear hb1)
          | (go_at_call 41; (refine (place_led g room e.a0 S _ (HL.out.below HB1.out (Nat.le_refl _))).mono ?_); rintro r w2 ⟨i, rfl, hp, hb2⟩; have hi : i = -1 := plc_none HF.out hp; subst hi; have HB2 := Lib.hid (bT HB1.out hb2); have y0 := (HB2.out.cell (p := ⟨g, 0, none⟩) hlg).trans HC0.out; have y1 := (HB2.out.cell (p := ⟨g, 1, none⟩) hlg).trans HC1.out; clear hp hb2))
        go_quiet (fail)
        go_wp2
        go_ret
        exact rret_same HL.out (bN HB2.out nq) HQ.out
      · have HQ := Lib.hid (show addR room S e = (ins e S, 0) by unfold addR; rw [if_neg (by simp [ho]), if_neg (by simp [hf]), if_neg hr])
        have dr : decide (room ≤ (S.length : Int)) = false := by simpa using hr
        obtain ⟨i0, hi, hz0, hz1, hz2⟩ := info_parts infoEn3
        clear hf hr
        go_enter Try.func16, Try.ntmps16
        go_wp2_with (first
          | (go_at_call 22; (with_reducible refine (rledIs_any e _).mono ?_); rintro r w1 ⟨he, hb1⟩; rw [ho] at he; subst he; have HB1 := Lib.hid (bT (bel1 w _) hb1); have HE1 := Lib.hid ((hb1.block w.heap.size (by simp)).trans (heap_alloc_new w _)); have hE1 := (hb1.cell (p := ⟨w.heap.size, 0, none⟩) (by simp)).trans (cell_of_row _ w.heap.size 0 _ _ _ (heap_alloc_new w _)); clear hb1)
          | (go_at_call 41; (refine (place_led g room e.a0 S _ (HL.out.below HB1.out (Nat.le_refl _))).mono ?_); rintro r w2 ⟨i, rfl, hp, hb2⟩; have hii : i = -1 := plc_none HF.out hp; subst hii; have HB2 := Lib.hid (bT HB1.out hb2); have HE2 := Lib.hid ((hb2.block w.heap.size (Array.getElem?_eq_some_iff.1 HE1.out).1).trans HE1.out); have y0 := (HB2.out.cell (p := ⟨g, 0, none⟩) hlg).trans HC0.out; have y1 := (HB2.out.cell (p := ⟨g, 1, none⟩) hlg).trans HC1.out; clear hE1 hp hb2))
        go_quiet (fail)
        clear y0 y1
        have HB3 := Lib.hid (bN HB2.out nq)
        have hsz3 : w.heap.size < w2.heap.size := (Array.getElem?_eq_some_iff.1 HE2.out).1
        have HE3 : Hid ((w2.drewN nq).heap[w.heap.size]? = _) := Lib.hid HE2.out
        obtain ⟨w3, hw3⟩ : ∃ w3, w2.drewN nq = w3 := ⟨_, rfl⟩
        rw [hw3] at HB3 HE3
        rw [hw3]
        have hsz : w.heap.size < w3.heap.size := by rw [← hw3]; exact hsz3
        clear hw3 hsz3 HE2 HB2 HE1 HB1
        obtain ⟨B, hBB⟩ : ∃ B, w3.heap.size = B := ⟨_, rfl⟩
        have HOB : Hid ((w3.alloc (.cells #[] 37)).ownsRow B 37 14 (.slice (some ⟨w3.heap.size, 0, none⟩) 0 0) 0 []) := Lib.hid (by rw [← hBB]; exact World.ownsRow_made w3 #[] 0 (Nat.le_refl _) (by simp [maxLen]) (by simp))
        have HBB := Lib.hid hBB
        clear hBB
        have HK := Lib.hid (fun W (h : Below B w3 W) => add_keep HR HC1 HB3 HE3 hlg (by rw [← HBB.out]; exact hsz) h)
        go_wp2
        go_loopw [5, 6, 7] (fun v pv i wr => ∃ (k : Nat) (pb : Bool) (C : List En), k ≤ S.length ∧ pv = .bool pb ∧ i = .int .i64 k ∧ Hid (wr.ownsRow B 37 14 v C.length (rowsOf C)) ∧ Hid (Mid S e k pb C) ∧ Hid (Below B w3 wr ∧ B ≤ wr.heap.size)) (fun _ _ i _ => S.length - (intOf i).toNat)
        case atStart => exact ⟨0, false, [], Nat.zero_le _, rfl, rfl, HOB, Lib.hid (mid_start S e), Lib.hid ⟨by rw [← HBB.out]; exact bel1 _ _, by rw [← HBB.out]; simp⟩⟩
        case round =>
          obtain ⟨k, pb, C, hkl, rfl, rfl, HROW, hM, hB⟩ := hrel
          have HCL := Lib.hid (mid_len hM.out)
          obtain ⟨y1, hR, hrow⟩ := HK.out wr hB.out.1
          by_cases hlt : k < S.length
          · obtain ⟨ad, rfl, ha⟩ := hR.at_ hlt
            obtain ⟨x, hx⟩ : ∃ x, S[k] = x := ⟨_, rfl⟩
            rw [hx] at ha
            have HX := Lib.hid hx
            have HA := Lib.hid ha
            obtain ⟨x0, x1, x2, x3, x4, x5, x6, x7, x8, x9, x10, x11, x12, x13⟩ := ha.cells
            have z0 := cell_of_row _ w.heap.size 0 _ _ _ hrow
            have z0' : wr.cell? ⟨w.heap.size, 0, none⟩ = some (.int .i64 e.a0) := z0
            clear hR ha hx z0 hrow
            cases pb with
            | true =>
              go_wp2
              go_quiet (fail)
              obtain ⟨w4, hw4⟩ : ∃ w4, wr.drewN nq = w4 := ⟨_, rfl⟩
              have hB4 : Hid (Below B w3 w4 ∧ B ≤ w4.heap.size) := Lib.hid (by rw [← hw4]; exact ⟨hB.out.1.trans (by exact ⟨rfl, rfl, rfl, Nat.le_refl _, fun _ _ => rfl⟩), hB.out.2⟩)
              have HROW4 : Hid (w4.ownsRow B 37 14 u5 C.length (rowsOf C)) := Lib.hid (by rw [← hw4]; exact HROW.out)
              rw [hw4]
              clear hw4 y1 x0 x1 x2 x3 x4 x5 x6 x7 x8 x9 x10 x11 x12 x13 z0' HA HROW hB
              obtain ⟨y1, hR, hrow⟩ := HK.out w4 hB4.out.1
              obtain ⟨ad2, hA2, ha⟩ := hR.at_ hlt
              rw [HX.out] at ha
              obtain rfl := Option.some.inj hA2
              obtain ⟨x0, x1, x2, x3, x4, x5, x6, x7, x8, x9, x10, x11, x12, x13⟩ := ha.cells
              clear hR ha hrow
              go_wp2_with (at_builtin; go_loud (refine wpList_append_own_at _ rfl _ _ 22 rfl B 37 i0 (.agg zE.row.toArray) 14 112 Try.underlying22 hi hz0 hz1 hz2 rfl (by decide) _ (C).length (rowsOf (C)) rfl (HROW4.out.alloc _) ⟨w4.heap.size, 0, none⟩ 1 1 x.row rfl rfl (ecells_new _ _ _) (row_one x) ?_ ?_ ?_ ?_); (focus (go_loud (have := HCL.out; exact maxLen_ge (by (try simp only [List.length_append, List.length_cons, List.length_nil]); omega)))); (focus (go_loud (have := HCL.out; (try simp only [List.length_append, List.length_cons, List.length_nil]); omega))); (focus (go_loud (have := hB4.out.2; simp; omega))); go_loud (intro v5 w5 ho hg _ _; have HN := app_next (X := x) hB4.out.1 hB4.out.2 HROW4.out ho hg; have HROW5 := Lib.hid HN.1; have HB5 := Lib.hid HN.2; clear HN ho hg))
              go_roundw
              case rel => exact ⟨k + 1, true, C ++ [x], by omega, rfl, by go_num, HROW5, Lib.hid (by have h := mid_on hlt hM.out; rw [HX.out] at h; exact h), HB5⟩
              case measure => simp [intOf]; omega
            | false =>
              by_cases hex : e.a0 < x.a0
              · have dd : decide (e.a0 < x.a0) = true := by simpa using hex
                have HEX := Lib.hid hex
                clear hex
                go_wp2
                go_quiet (fail)
                obtain ⟨w4, hw4⟩ : ∃ w4, wr.drewN nq = w4 := ⟨_, rfl⟩
                have hB4 : Hid (Below B w3 w4 ∧ B ≤ w4.heap.size) := Lib.hid (by rw [← hw4]; exact ⟨hB.out.1.trans (by exact ⟨rfl, rfl, rfl, Nat.le_refl _, fun _ _ => rfl⟩), hB.out.2⟩)
                have HROW4 : Hid (w4.ownsRow B 37 14 u5 C.length (rowsOf C)) := Lib.hid (by rw [← hw4]; exact HROW.out)
                rw [hw4]
                clear hw4 y1 x0 x1 x2 x3 x4 x5 x6 x7 x8 x9 x10 x11 x12 x13 z0' HA HROW hB
                obtain ⟨y1, hR, hrow⟩ := HK.out w4 hB4.out.1
                have z0 : w4.cell? ⟨w.heap.size, 0, none⟩ = _ := cell_of_row _ w.heap.size 0 _ _ _ hrow
                have z1 : w4.cell? ⟨w.heap.size, 1, none⟩ = _ := cell_of_row _ w.heap.size 1 _ _ _ hrow
                have z2 : w4.cell? ⟨w.heap.size, 2, none⟩ = _ := cell_of_row _ w.heap.size 2 _ _ _ hrow
                have z3 : w4.cell? ⟨w.heap.size, 3, none⟩ = _ := cell_of_row _ w.heap.size 3 _ _ _ hrow
                have z4 : w4.cell? ⟨w.heap.size, 4, none⟩ = _ := cell_of_row _ w.heap.size 4 _ _ _ hrow
                have z5 : w4.cell? ⟨w.heap.size, 5, none⟩ = _ := cell_of_row _ w.heap.size 5 _ _ _ hrow
                have z6 : w4.cell? ⟨w.heap.size, 6, none⟩ = _ := cell_of_row _ w.heap.size 6 _ _ _ hrow
                have z7 : w4.cell? ⟨w.heap.size, 7, none⟩ = _ := cell_of_row _ w.heap.size 7 _ _ _ hrow
                have z8 : w4.cell? ⟨w.heap.size, 8, none⟩ = _ := cell_of_row _ w.heap.size 8 _ _ _ hrow
                have z9 : w4.cell? ⟨w.heap.size, 9, none⟩ = _ := cell_of_row _ w.heap.size 9 _ _ _ hrow
                have z10 : w4.cell? ⟨w.heap.size, 10, none⟩ = _ := cell_of_row _ w.heap.size 10 _ _ _ hrow
                have z11 : w4.cell? ⟨w.heap.size, 11, none⟩ = _ := cell_of_row _ w.heap.size 11 _ _ _ hrow
                have z12 : w4.cell? ⟨w.heap.size, 12, none⟩ = _ := cell_of_row _ w.heap.size 12 _ _ _ hrow
                have z13 : w4.cell? ⟨w.heap.size, 13, none⟩ = _ := cell_of_row _ w.heap.size 13 _ _ _ hrow
                dsimp only [En.row] at z0 z1 z2 z3 z4 z5 z6 z7 z8 z9 z10 z11 z12 z13
                clear hR hrow
                go_wp2_with (first
                  | (at_builtin; go_loud (refine wpList_append_own_at _ rfl _ _ 22 rfl B 37 i0 (.agg zE.row.toArray) 14 112 Try.underlying22 hi hz0 hz1 hz2 rfl (by decide) _ (C).length (rowsOf (C)) rfl (HROW4.out.alloc _) ⟨w4.heap.size, 0, none⟩ 1 1 e.row rfl rfl (ecells_new _ _ _) (row_one e) ?_ ?_ ?_ ?_); (focus (go_loud (have := HCL.out; exact maxLen_ge (by (try simp only [List.length_append, List.length_cons, List.length_nil]); omega)))); (focus (go_loud (have := HCL.out; (try simp only [List.length_append, List.length_cons, List.length_nil]); omega))); (focus (go_loud (have := hB4.out.2; simp; omega))); go_loud (intro v5 w5 ho hg _ _; have HN := app_next (X := e) hB4.out.1 hB4.out.2 HROW4.out ho hg; have HROW5 := Lib.hid HN.1; have HB5 := Lib.hid HN.2; clear HN ho hg; obtain ⟨y1, hR, hrow⟩ := HK.out w5 HB5.out.1; obtain ⟨ad2, hA2, ha⟩ := hR.at_ hlt; rw [HX.out] at ha; obtain rfl := Option.some.inj hA2; obtain ⟨x0, x1, x2, x3, x4, x5, x6, x7, x8, x9, x10, x11, x12, x13⟩ := ha.cells; clear hR ha hrow HROW4 hB4 z0 z1 z2 z3 z4 z5 z6 z7 z8 z9 z10 z11 z12 z13))
                  | (at_builtin; go_loud (refine wpList_append_own_at _ rfl _ _ 22 rfl B 37 i0 (.agg zE.row.toArray) 14 112 Try.underlying22 hi hz0 hz1 hz2 rfl (by decide) _ (C ++ [e]).length (rowsOf (C ++ [e])) rfl (HROW5.out.alloc _) ⟨w5.heap.size, 0, none⟩ 1 1 x.row rfl rfl (ecells_new _ _ _) (row_one x) ?_ ?_ ?_ ?_); (focus (go_loud (have := HCL.out; exact maxLen_ge (by (try simp only [List.length_append, List.length_cons, List.length_nil]); omega)))); (focus (go_loud (have := HCL.out; (try simp only [List.length_append, List.length_cons, List.length_nil]); omega))); (focus (go_loud (have := HB5.out.2; simp; omega))); go_loud (intro v6 w6 ho hg _ _; have HN := app_next (X := x) HB5.out.1 HB5.out.2 HROW5.out ho hg; have HROW6 := Lib.hid HN.1; have HB6 := Lib.hid HN.2; clear HN ho hg)))
                go_roundw
                case rel => exact ⟨k + 1, true, (C ++ [e]) ++ [x], by omega, rfl, by go_num, HROW6, Lib.hid (by have h := mid_put hlt hM.out (by rw [HX.out]; have := HEX.out; omega); rw [HX.out] at h; exact h), HB6⟩
                case measure => simp [intOf]; omega
              · have dd : decide (e.a0 < x.a0) = false := by simpa using hex
                have HEX := Lib.hid hex
                clear hex
                go_wp2
                go_quiet (fail)
                obtain ⟨w4, hw4⟩ : ∃ w4, wr.drewN nq = w4 := ⟨_, rfl⟩
                have hB4 : Hid (Below B w3 w4 ∧ B ≤ w4.heap.size) := Lib.hid (by rw [← hw4]; exact ⟨hB.out.1.trans (by exact ⟨rfl, rfl, rfl, Nat.le_refl _, fun _ _ => rfl⟩), hB.out.2⟩)
                have HROW4 : Hid (w4.ownsRow B 37 14 u5 C.length (rowsOf C)) := Lib.hid (by rw [← hw4]; exact HROW.out)
                rw [hw4]
                clear hw4 y1 x0 x1 x2 x3 x4 x5 x6 x7 x8 x9 x10 x11 x12 x13 z0' HA HROW hB
                obtain ⟨y1, hR, hrow⟩ := HK.out w4 hB4.out.1
                obtain ⟨ad2, hA2, ha⟩ := hR.at_ hlt
                rw [HX.out] at ha
                obtain rfl := Option.some.inj hA2
                obtain ⟨x0, x1, x2, x3, x4, x5, x6, x7, x8, x9, x10, x11, x12, x13⟩ := ha.cells
                clear hR ha hrow
                go_wp2_with (at_builtin; go_loud (refine wpList_append_own_at _ rfl _ _ 22 rfl B 37 i0 (.agg zE.row.toArray) 14 112 Try.underlying22 hi hz0 hz1 hz2 rfl (by decide) _ (C).length (rowsOf (C)) rfl (HROW4.out.alloc _) ⟨w4.heap.size, 0, none⟩ 1 1 x.row rfl rfl (ecells_new _ _ _) (row_one x) ?_ ?_ ?_ ?_); (focus (go_loud (have := HCL.out; exact maxLen_ge (by (try simp only [List.length_append, List.length_cons, List.length_nil]); omega)))); (focus (go_loud (have := HCL.out; (try simp only [List.length_append, List.length_cons, List.length_nil]); omega))); (focus (go_loud (have := hB4.out.2; simp; omega))); go_loud (intro v5 w5 ho hg _ _; have HN := app_next (X := x) hB4.out.1 hB4.out.2 HROW4.out ho hg; have HROW5 := Lib.hid HN.1; have HB5 := Lib.hid HN.2; clear HN ho hg))
                go_roundw
                case rel => exact ⟨k + 1, false, C ++ [x], by omega, rfl, by go_num, HROW5, Lib.hid (by have h := mid_stay hlt hM.out (by rw [HX.out]; have := HEX.out; omega); rw [HX.out] at h; exact h), HB5⟩
                case measure => simp [intOf]; omega
          · have hkk : k = S.length := by omega
            rw [hkk] at hM
            have hgB : g < B := by rw [← HBB.out]; omega
            have hgr : wr.heap[g]? = _ := (hB.out.1.block g hgB).trans ((HB3.out.block g hlg).trans HG.out)
            have HGR := Lib.hid hgr
            have fz : wr.frozen? ⟨g, 1, none⟩ = false := by simp [World.frozen?, hgr]
            have HBW := Lib.hid ((HB3.out.mono (Nat.le_of_lt hlg)).trans (hB.out.1.mono (Nat.le_of_lt hgB)))
            clear hR hkk hgr
            cases pb with
            | true =>
              clear hrow
              have HE := Lib.hid (mid_end hM.out)
              obtain ⟨A2, c2, rfl, k1, k2⟩ := own_sliceE HROW.out
              clear k1 k2
              go_wp2
              go_ret
              exact add_fin HROW.out HE.out HQ.out HGR.out hgB HOK.out HBW.out
            | false =>
              have HE : Hid (C ++ [e] = ins e S) := Lib.hid (by have h := mid_end hM.out; simpa using h)
              have z0 : wr.cell? ⟨w.heap.size, 0, none⟩ = _ := cell_of_row _ w.heap.size 0 _ _ _ hrow
              have z1 : wr.cell? ⟨w.heap.size, 1, none⟩ = _ := cell_of_row _ w.heap.size 1 _ _ _ hrow
              have z2 : wr.cell? ⟨w.heap.size, 2, none⟩ = _ := cell_of_row _ w.heap.size 2 _ _ _ hrow
              have z3 : wr.cell? ⟨w.heap.size, 3, none⟩ = _ := cell_of_row _ w.heap.size 3 _ _ _ hrow
              have z4 : wr.cell? ⟨w.heap.size, 4, none⟩ = _ := cell_of_row _ w.heap.size 4 _ _ _ hrow
              have z5 : wr.cell? ⟨w.heap.size, 5, none⟩ = _ := cell_of_row _ w.heap.size 5 _ _ _ hrow
              have z6 : wr.cell? ⟨w.heap.size, 6, none⟩ = _ := cell_of_row _ w.heap.size 6 _ _ _ hrow
              have z7 : wr.cell? ⟨w.heap.size, 7, none⟩ = _ := cell_of_row _ w.heap.size 7 _ _ _ hrow
              have z8 : wr.cell? ⟨w.heap.size, 8, none⟩ = _ := cell_of_row _ w.heap.size 8 _ _ _ hrow
              have z9 : wr.cell? ⟨w.heap.size, 9, none⟩ = _ := cell_of_row _ w.heap.size 9 _ _ _ hrow
              have z10 : wr.cell? ⟨w.heap.size, 10, none⟩ = _ := cell_of_row _ w.heap.size 10 _ _ _ hrow
              have z11 : wr.cell? ⟨w.heap.size, 11, none⟩ = _ := cell_of_row _ w.heap.size 11 _ _ _ hrow
              have z12 : wr.cell? ⟨w.heap.size, 12, none⟩ = _ := cell_of_row _ w.heap.size 12 _ _ _ hrow
              have z13 : wr.cell? ⟨w.heap.size, 13, none⟩ = _ := cell_of_row _ w.heap.size 13 _ _ _ hrow
              dsimp only [En.row] at z0 z1 z2 z3 z4 z5 z6 z7 z8 z9 z10 z11 z12 z13
              clear hrow
              go_wp2_with (at_builtin; go_loud (refine wpList_append_own_at _ rfl _ _ 22 rfl B 37 i0 (.agg zE.row.toArray) 14 112 Try.underlying22 hi hz0 hz1 hz2 rfl (by decide) _ (C).length (rowsOf (C)) rfl (HROW.out.alloc _) ⟨wr.heap.size, 0, none⟩ 1 1 e.row rfl rfl (ecells_new _ _ _) (row_one e) ?_ ?_ ?_ ?_); (focus (go_loud (have := HCL.out; exact maxLen_ge (by (try simp only [List.length_append, List.length_cons, List.length_nil]); omega)))); (focus (go_loud (have := HCL.out; (try simp only [List.length_append, List.length_cons, List.length_nil]); omega))); (focus (go_loud (have := hB.out.2; simp; omega))); go_loud (intro v5 w5 ho hg _ _; have HN := app_next (X := e) hB.out.1 hB.out.2 HROW.out ho hg; have HROW5 := Lib.hid HN.1; have HB5 := Lib.hid HN.2; clear HN ho hg; have HGR5 := Lib.hid ((HB5.out.1.block g hgB).trans ((HB3.out.block g hlg).trans HG.out)); have hgr := HGR5.out; have fz5 : w5.frozen? ⟨g, 1, none⟩ = false := (by simp [World.frozen?, hgr]); have y5 : w5.cell? ⟨g, 1, none⟩ = some (.slice A S.length c) := ((cell_of_row _ g 1 _ _ _ hgr).trans rfl); obtain ⟨A2, c2, rfl, k1, k2⟩ := own_sliceE HROW5.out; clear hgr k1 k2))
              go_ret
              have h := add_fin HROW5.out HE.out HQ.out HGR5.out hgB HOK.out ((HB3.out.mono (Nat.le_of_lt hlg)).trans (HB5.out.1.mono (Nat.le_of_lt hgB)))
              rw [show (C ++ [e]).length = C.length + 1 by simp] at h
              exact h
end Go.Proofs.Ytpmfmkkifkpdcaa

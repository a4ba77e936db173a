/- Layer 18: what fields.Get computes. No condition. -/
import Derived.Test.YtachkhjbckapoaaT29
import Derived.Test.YtachkhjbckapoaaT42
namespace Go.Proofs.Ytachkhjbckapoaa
open Go.RowKit
set_option linter.unusedVariables false
set_option maxRecDepth 100000
set_option linter.unusedSimpArgs false

def iv (l : List Int) : List Value := l.map (Value.int .i64)
theorem iv_len (l : List Int) : (iv l).length = l.length := by simp [iv]
theorem iv_set (l : List Int) (j : Nat) (n : Int) : (iv l).set j (.int .i64 n) = iv (l.set j n) := by simp [iv, List.map_set]
theorem row_iv {w : World} {g : Nat} {l : List Int} {t : TypeId} {j : Nat} (h : w.heap[g]? = some (.cells (iv l).toArray t (0, 0))) (hj : j < l.length) : w.cell? ⟨g, j, none⟩ = some (.int .i64 (l.getD j 0)) := by
  rw [cell_of_row w g j _ t (0, 0) h, List.getElem?_toArray]
  simp [iv, List.getD_eq_getElem?_getD, hj]
theorem row_ivset {w : World} {g : Nat} {l : List Int} {t : TypeId} (j : Nat) (n : Int) (h : w.heap[g]? = some (.cells (iv l).toArray t (0, 0))) : (w.setCell ⟨g, j, none⟩ (.int .i64 n)).heap[g]? = some (.cells (iv (l.set j n)).toArray t (0, 0)) := by
  rw [heap_setCell_same w g j _ _ _ h, ← iv_set]
  simp
theorem iv_one (l : List Int) : ∀ v ∈ iv l, v.oneCell' = true := one_ints .i64 l

theorem infoRd : (Try.prog.info? 28).map (·.size) = some 15 := by kernel_rfl
def FGRet (r : List Int × Int) (w : World) (e : Ending) (w' : World) : Prop := e = .returned (.tuple #[.agg (iv r.1).toArray, .int .i64 r.2]) ∧ Below w.heap.size w w'
theorem fgPost {r : List Int × Int} {w w' : World} {a : Act} {old cs : Array Value} {l : List Int} (hcs : cs = (iv l).toArray) (hd : a.defers = []) (hp : a.tmps.getD 2 undef = .pointer (some ⟨w.heap.size, 0, none⟩)) (hv : a.tmps.getD 3 undef = .int .i64 r.2) (hr : r.1 = l) (hl : l.length = 15)
    (hF : w'.heap[w.heap.size]? = some (.cells old 28 (0, 0))) (hb : Below w.heap.size w w') : bodyPost Try.prog Try.f43 (FGRet r w) .ret a (w'.setRow w.heap.size cs) := by
  subst hcs hr
  exact bodyPost_ret (results_keyrow rfl Try.underlying28 rfl hp hv (setRow_heap _ _ _ _ _ _ hF) (by rw [List.size_toArray, iv_len, hl]; exact infoRd)) hd ⟨rfl, setRow_below hb (Nat.le_refl _)⟩
theorem list15 (l : List Int) (h : l.length = 15) : ∃ x0 x1 x2 x3 x4 x5 x6 x7 x8 x9 x10 x11 x12 x13 x14, l = [x0, x1, x2, x3, x4, x5, x6, x7, x8, x9, x10, x11, x12, x13, x14] := by
  match l, h with
  | [x0, x1, x2, x3, x4, x5, x6, x7, x8, x9, x10, x11, x12, x13, x14], _ => exact ⟨x0, x1, x2, x3, x4, x5, x6, x7, x8, x9, x10, x11, x12, x13, x14, rfl⟩
theorem fgEnd15 (x0 x1 x2 x3 x4 x5 x6 x7 x8 x9 x10 x11 x12 x13 x14 la : Int) : fgEnd [x0, x1, x2, x3, x4, x5, x6, x7, x8, x9, x10, x11, x12, x13, x14] la = if x14 < la ∨ 3 < x14 then (zL, 12) else if x1 = 4 then (if 100 ≤ x11 ∨ tkL [x0, x1, x2, x3, x4, x5, x6, x7, x8, x9, x10, x11, x12, x13, x14] = false then (zL, 9) else ([x0, x1, x2, x3, x4, x5, x6, x7, x8, x9, x10, x11, x12, x13, x14], 0)) else if x9 ≠ 0 then (zL, 9) else if 100 ≤ x11 ∨ tkL [x0, x1, x2, x3, x4, x5, x6, x7, x8, (x1 % 3), x10, x11, x12, x13, x14] = false then (zL, 9) else ([x0, x1, x2, x3, x4, x5, x6, x7, x8, (x1 % 3), x10, x11, x12, x13, x14], 0) := rfl
theorem z15_eq : (#[.int .i64 0, .int .i64 0, .int .i64 0, .int .i64 0, .int .i64 0, .int .i64 0, .int .i64 0, .int .i64 0, .int .i64 0, .int .i64 0, .int .i64 0, .int .i64 0, .int .i64 0, .int .i64 0, .int .i64 0] : Array Value) = (iv zL).toArray := rfl

set_option maxHeartbeats 8000000 in
set_option maxRecDepth 100000 in
theorem fieldsGet_any (A : Option Addr) (c : Nat) (q : List Fd) (w : World) (hr : RdF w A q) (hl : q.length ≤ 9223372036854775807) :
    Calls Try.prog 43 #[.slice A q.length c] w (FGRet (fgE q) w) := by
  have hI := fun W hW => tlvIs_any A c q W hW hl
  obtain ⟨rv, hrv⟩ : ∃ rv, fgE q = rv := ⟨_, rfl⟩
  rw [hrv]
  have hF0 := heap_alloc_new w (.cells #[.int .i64 0, .int .i64 0, .int .i64 0, .int .i64 0, .int .i64 0, .int .i64 0, .int .i64 0, .int .i64 0, .int .i64 0, .int .i64 0, .int .i64 0, .int .i64 0, .int .i64 0, .int .i64 0, .int .i64 0] 28)
  have hs0 : w.heap.size < (w.alloc (.cells #[.int .i64 0, .int .i64 0, .int .i64 0, .int .i64 0, .int .i64 0, .int .i64 0, .int .i64 0, .int .i64 0, .int .i64 0, .int .i64 0, .int .i64 0, .int .i64 0, .int .i64 0, .int .i64 0, .int .i64 0] 28)).heap.size := by simp
  have hb0 := bel1 w (.cells #[.int .i64 0, .int .i64 0, .int .i64 0, .int .i64 0, .int .i64 0, .int .i64 0, .int .i64 0, .int .i64 0, .int .i64 0, .int .i64 0, .int .i64 0, .int .i64 0, .int .i64 0, .int .i64 0, .int .i64 0] 28)
  have hr0 := hr.below hb0 (Nat.le_refl _)
  cases hz : tlvB 0 q with
  | false =>
    have E := Lib.hid (show rv = (zL, 1) by rw [← hrv]; unfold fgE; rw [hz]; rfl)
    rw [hz] at hI
    go_enter Try.func43, Try.ntmps43
    go_wp2_with (first | (go_at_call 77; (with_reducible refine (hI _ hr0).mono ?_); rintro e w1 ⟨rfl, hb1⟩; have hF := (hb1.block w.heap.size hs0).trans hF0; have hbx := hb0.trans (hb1.mono (Nat.le_of_lt hs0))) | (refine wpList_store_row rfl 28 _ _ rfl w.heap.size #[.int .i64 0, .int .i64 0, .int .i64 0, .int .i64 0, .int .i64 0, .int .i64 0, .int .i64 0, .int .i64 0, .int .i64 0, .int .i64 0, .int .i64 0, .int .i64 0, .int .i64 0, .int .i64 0, .int .i64 0] rfl rfl 28 _ hF ?_ ?_ ?_ ?_; (focus (exact infoRd)); (focus rfl); (focus (simp [Value.oneCell']))))
    exact fgPost z15_eq rfl rfl (by rw [E.out] <;> rfl) (by rw [E.out] <;> rfl) rfl hF hbx
  | true =>
    rw [hz] at hI
    have EF := Lib.hid (show rv = (if (fgGo q zL 1).2.2 ≠ 0 then (zL, (fgGo q zL 1).2.2) else fgEnd (fgGo q zL 1).1 (fgGo q zL 1).2.1) by rw [← hrv]; unfold fgE; rw [if_pos hz])
    obtain ⟨hlen, _⟩ := tlvB_facts q 0 hz (by omega)
    clear hrv hz
    go_enter Try.func43, Try.ntmps43
    go_wp2_with (go_at_call 77; (with_reducible refine (hI _ hr0).mono ?_); rintro e w1 ⟨rfl, hb1⟩; have hF := (hb1.block w.heap.size hs0).trans hF0; have hbx := hb0.trans (hb1.mono (Nat.le_of_lt hs0)))
    have hgS : (w1.alloc (.cells #[.int .i64 0, .int .i64 0, .int .i64 0, .int .i64 0, .int .i64 0, .int .i64 0, .int .i64 0, .int .i64 0, .int .i64 0, .int .i64 0, .int .i64 0, .int .i64 0, .int .i64 0, .int .i64 0, .int .i64 0] 86)).heap[w1.heap.size]? = some (.cells (iv zL).toArray 86 (0, 0)) := heap_alloc_new w1 _
    have hlt1 : w.heap.size < w1.heap.size := (Array.getElem?_eq_some_iff.1 hF).1
    have hF4 := ((bel1 w1 (.cells #[.int .i64 0, .int .i64 0, .int .i64 0, .int .i64 0, .int .i64 0, .int .i64 0, .int .i64 0, .int .i64 0, .int .i64 0, .int .i64 0, .int .i64 0, .int .i64 0, .int .i64 0, .int .i64 0, .int .i64 0] 86)).block w.heap.size hlt1).trans hF
    have hb4 := bT hbx (bel1 w1 (.cells #[.int .i64 0, .int .i64 0, .int .i64 0, .int .i64 0, .int .i64 0, .int .i64 0, .int .i64 0, .int .i64 0, .int .i64 0, .int .i64 0, .int .i64 0, .int .i64 0, .int .i64 0, .int .i64 0, .int .i64 0] 86))
    obtain ⟨W4, hW4⟩ : ∃ W4, w1.alloc (.cells #[.int .i64 0, .int .i64 0, .int .i64 0, .int .i64 0, .int .i64 0, .int .i64 0, .int .i64 0, .int .i64 0, .int .i64 0, .int .i64 0, .int .i64 0, .int .i64 0, .int .i64 0, .int .i64 0, .int .i64 0] 86) = W4 := ⟨_, rfl⟩
    obtain ⟨g, hg⟩ : ∃ g, w1.heap.size = g := ⟨_, rfl⟩
    rw [hg] at hlt1
    rw [hW4] at hF4 hb4
    rw [hW4, hg] at hgS
    rw [hW4, hg]
    clear hF hbx hF0 hb0 hs0 hr0 hI hW4 hb1 hg w1
    have HR := Lib.hid hr
    clear hr
    go_loopw [5, 7, 8, 9, 10, 11, 12, 21] (fun s _ _ _ _ _ _ i wr => ∃ (k : Nat) (lc : List Int) (la : Int), k ≤ q.length ∧ i = .int .i64 k ∧ s = .int .i64 la ∧ wr.heap[g]? = some (.cells (iv lc).toArray 86 (0, 0)) ∧ lc.length = 15 ∧ Hid (∀ x ∈ lc, 0 ≤ x) ∧ Hid (fgGo (q.drop k) lc la = fgGo q zL 1) ∧ wr.heap[w.heap.size]? = some (.cells #[.int .i64 0, .int .i64 0, .int .i64 0, .int .i64 0, .int .i64 0, .int .i64 0, .int .i64 0, .int .i64 0, .int .i64 0, .int .i64 0, .int .i64 0, .int .i64 0, .int .i64 0, .int .i64 0, .int .i64 0] 28 (0, 0)) ∧ Below w.heap.size w wr) (fun _ _ _ _ _ _ _ i _ => q.length - (intOf i).toNat)
    case atStart => exact ⟨0, zL, 1, Nat.zero_le _, rfl, rfl, hgS, rfl, Lib.hid (by decide), Lib.hid (by simp), hF4, hb4⟩
    case round =>
      obtain ⟨k, lc, la, hk, rfl, rfl, hG, hlc, hnn, hq, hF, hbW⟩ := hrel
      clear hF4 hb4 hgS
      by_cases hlt : k < q.length
      · have e := hq.out
        rw [List.drop_eq_getElem_cons hlt, fgGo_cons] at e
        rcases HR.out.below hbW (Nat.le_refl _) with h0 | ⟨ad, rfl, _, hka⟩
        · simp [h0] at hlt
        obtain ⟨B, c2, c0, c1, hcl, hcc, hsr, hsb⟩ := hka k hlt
        generalize q[k] = f at *
        obtain ⟨t, fv⟩ := f
        simp only at c0 c1 e hcl hsr hsb
        obtain ⟨n2, hn2⟩ : ∃ n2, fv.length = n2 := ⟨_, rfl⟩
        rw [hn2] at c1
        have HE := Lib.hid e
        have k0 : (0 : Int) ≤ (k : Int) := by omega
        have k1 : (k : Int) < (q.length : Int) := by omega
        have hzw : w.heap.size < wr.heap.size := (Array.getElem?_eq_some_iff.1 hF).1
        have hzg : g < wr.heap.size := (Array.getElem?_eq_some_iff.1 hG).1
        clear e hq hka
        by_cases g1 : 128 ≤ t
        · have e := HE.out
          rw [if_pos g1] at e
          have HV := Lib.hid (show rv = (zL, 16) by rw [EF.out, ← e]; rfl)
          have hNO := Lib.hid (show t < 1 ∨ 13 < t by omega)
          clear e HE EF
          go_wp2_with (first | (go_at_call 73; (with_reducible refine (fplace_no _ _ _ hNO.out).mono ?_); rintro e w2 ⟨rfl, hb2⟩; obtain ⟨hc2, hf2⟩ := bcell hb2; have hz2 : wr.heap.size < w2.heap.size := (by have := hb2.size; simp at this; omega); have hF2 := (hb2.block w.heap.size (by simp; omega)).trans ((Below.heap_alloc _ _ _ hzw).trans hF); have hG2 := (hb2.block g (by simp; omega)).trans ((Below.heap_alloc _ _ _ hzg).trans hG); have HR2 := Lib.hid ((hsr.below (bel1 wr (.cells #[.int .i64 t, .slice B n2 c2] 67))).below hb2); have HB2 := Lib.hid (bT (bA hbW _) hb2); clear hb2) | (refine wpList_store_row rfl 28 _ _ rfl w.heap.size #[.int .i64 0, .int .i64 0, .int .i64 0, .int .i64 0, .int .i64 0, .int .i64 0, .int .i64 0, .int .i64 0, .int .i64 0, .int .i64 0, .int .i64 0, .int .i64 0, .int .i64 0, .int .i64 0, .int .i64 0] rfl rfl 28 _ hF2 ?_ ?_ ?_ ?_; (focus (exact infoRd)); (focus rfl); (focus (simp [Value.oneCell']))))
          exact fgPost z15_eq rfl rfl (by rw [HV.out] <;> rfl) (by rw [HV.out] <;> rfl) rfl hF2 HB2.out
        have e := HE.out
        rw [if_neg g1] at e
        by_cases g2 : nameB t = false
        · rw [if_pos g2] at e
          have HV := Lib.hid (show rv = (zL, 15) by rw [EF.out, ← e]; rfl)
          have hNO := Lib.hid (show t < 1 ∨ 13 < t by
            unfold nameB at g2
            simp at g2
            omega)
          clear e HE EF g2
          go_wp2_with (first | (go_at_call 73; (with_reducible refine (fplace_no _ _ _ hNO.out).mono ?_); rintro e w2 ⟨rfl, hb2⟩; obtain ⟨hc2, hf2⟩ := bcell hb2; have hz2 : wr.heap.size < w2.heap.size := (by have := hb2.size; simp at this; omega); have hF2 := (hb2.block w.heap.size (by simp; omega)).trans ((Below.heap_alloc _ _ _ hzw).trans hF); have hG2 := (hb2.block g (by simp; omega)).trans ((Below.heap_alloc _ _ _ hzg).trans hG); have HR2 := Lib.hid ((hsr.below (bel1 wr (.cells #[.int .i64 t, .slice B n2 c2] 67))).below hb2); have HB2 := Lib.hid (bT (bA hbW _) hb2); clear hb2) | (refine wpList_store_row rfl 28 _ _ rfl w.heap.size #[.int .i64 0, .int .i64 0, .int .i64 0, .int .i64 0, .int .i64 0, .int .i64 0, .int .i64 0, .int .i64 0, .int .i64 0, .int .i64 0, .int .i64 0, .int .i64 0, .int .i64 0, .int .i64 0, .int .i64 0] rfl rfl 28 _ hF2 ?_ ?_ ?_ ?_; (focus (exact infoRd)); (focus rfl); (focus (simp [Value.oneCell']))))
          exact fgPost z15_eq rfl rfl (by rw [HV.out] <;> rfl) (by rw [HV.out] <;> rfl) rfl hF2 HB2.out
        rw [if_neg g2] at e
        have ht := nameB_to (by simpa using g2 : nameB t = true)
        have ht1 := ht.1
        have ht2 := ht.2
        have hpl : plc t < lc.length := by rw [hlc]; exact plc_lt t ht1 ht2
        have hVal : ∀ W, RdI W .u8 B fv → Calls Try.prog 88 #[.slice B n2 c2] W fun e w' => e = .returned (.tuple #[.int .i64 (valE fv).1, .int .i64 (valE fv).2]) ∧ W = w' := by
          intro W hW
          rw [← hn2]
          exact value_any B c2 fv W hW (by omega) hsb
        have hvo := fun h => valE_ok (v := fv) h hsb
        generalize valE fv = ve at *
        have HE := Lib.hid e
        clear e g2 ht
        by_cases g3 : ve.2 ≠ 0
        · have e := HE.out
          rw [if_pos g3] at e
          have HV := Lib.hid (show rv = (zL, ve.2) by rw [EF.out, ← e]; simp [g3])
          have hzb : (ve.2 != 0) = true := by simpa using g3
          clear e HE EF g3 hvo
          go_wp2_with (first | (go_at_call 73; (with_reducible refine (fplace_any _ _ _ ht1 ht2).mono ?_); rintro e w2 ⟨rfl, hb2⟩; obtain ⟨hc2, hf2⟩ := bcell hb2; have hz2 : wr.heap.size < w2.heap.size := (by have := hb2.size; simp at this; omega); have hF2 := (hb2.block w.heap.size (by simp; omega)).trans ((Below.heap_alloc _ _ _ hzw).trans hF); have hG2 := (hb2.block g (by simp; omega)).trans ((Below.heap_alloc _ _ _ hzg).trans hG); have HR2 := Lib.hid ((hsr.below (bel1 wr (.cells #[.int .i64 t, .slice B n2 c2] 67))).below hb2); have HB2 := Lib.hid (bT (bA hbW _) hb2); clear hb2; have hcs := row_iv hG2 hpl; have hfs : w2.frozen? ⟨g, plc t, none⟩ = false := (by simp [World.frozen?, hG2]); have hcc : ∀ v, (w2.setCell ⟨g, plc t, none⟩ v).cell? ⟨wr.heap.size, 0, none⟩ = some (.int .i64 t) := (fun v => (World.cell?_of_block (Below.heap_setCell w2 ⟨g, plc t, none⟩ v wr.heap.size (by show wr.heap.size ≠ g; omega))).trans ((hc2 _ _ (by simp)).trans (cell_of_row _ _ 0 _ _ _ (heap_alloc_new wr _))))) | (go_at_call 88; (with_reducible refine (hVal _ HR2.out).mono ?_); rintro e w3 ⟨rfl, rfl⟩) | (refine wpList_store_row rfl 28 _ _ rfl w.heap.size #[.int .i64 0, .int .i64 0, .int .i64 0, .int .i64 0, .int .i64 0, .int .i64 0, .int .i64 0, .int .i64 0, .int .i64 0, .int .i64 0, .int .i64 0, .int .i64 0, .int .i64 0, .int .i64 0, .int .i64 0] rfl rfl 28 _ hF2 ?_ ?_ ?_ ?_; (focus (exact infoRd)); (focus rfl); (focus (simp [Value.oneCell']))))
          exact fgPost z15_eq rfl rfl (by rw [HV.out] <;> rfl) (by rw [HV.out] <;> rfl) rfl hF2 HB2.out
        · have e := HE.out
          rw [if_neg g3] at e
          have hv0 : ve.2 = 0 := Classical.not_not.1 g3
          have hvv := hvo hv0
          have hzb : (ve.2 != 0) = false := by simpa using hv0
          have HX := Lib.hid e
          have HVV := Lib.hid hvv
          have hne1 : ¬ g = wr.heap.size := by omega
          have hfw : wr.frozen? ⟨g, plc t, none⟩ = false := by simp [World.frozen?, hG]
          have hcw := row_iv hG hpl
          have hne2 : ¬ wr.heap.size = g := by omega
          clear e HE EF g3 hvo hvv hv0
          go_wp2_with (first | (go_at_call 73; (with_reducible refine (fplace_any _ _ _ ht1 ht2).mono ?_); rintro e w2 ⟨rfl, hb2⟩; obtain ⟨hc2, hf2⟩ := bcell hb2; have hz2 : wr.heap.size < w2.heap.size := (by have := hb2.size; simp at this; omega); have hF2 := (hb2.block w.heap.size (by simp; omega)).trans ((Below.heap_alloc _ _ _ hzw).trans hF); have hG2 := (hb2.block g (by simp; omega)).trans ((Below.heap_alloc _ _ _ hzg).trans hG); have HR2 := Lib.hid ((hsr.below (bel1 wr (.cells #[.int .i64 t, .slice B n2 c2] 67))).below hb2); have HB2 := Lib.hid (bT (bA hbW _) hb2); clear hb2; have hcs := row_iv hG2 hpl; have hfs : w2.frozen? ⟨g, plc t, none⟩ = false := (by simp [World.frozen?, hG2]); have hcc : ∀ v, (w2.setCell ⟨g, plc t, none⟩ v).cell? ⟨wr.heap.size, 0, none⟩ = some (.int .i64 t) := (fun v => (World.cell?_of_block (Below.heap_setCell w2 ⟨g, plc t, none⟩ v wr.heap.size (by show wr.heap.size ≠ g; omega))).trans ((hc2 _ _ (by simp)).trans (cell_of_row _ _ 0 _ _ _ (heap_alloc_new wr _))))) | (go_at_call 88; (with_reducible refine (hVal _ HR2.out).mono ?_); rintro e w3 ⟨rfl, rfl⟩) | (go_at_call 74; (with_reducible refine (name_any _ _).mono ?_); rintro e w4 ⟨rfl, rfl⟩))
          exact ⟨⟨k + 1, lc.set (plc t) ve.1, max la (nameE t), by omega, by go_num, by congr 1; split <;> omega, row_ivset _ _ hG2, by simpa using hlc, Lib.hid (fun x hx => by
            rcases List.mem_or_eq_of_mem_set hx with hx | rfl
            · exact hnn.out x hx
            · have := HVV.out; omega), HX, (Below.heap_setCell _ _ _ _ (by show w.heap.size ≠ g; omega)).trans hF2, HB2.out.setCell (p := ⟨g, plc t, none⟩) (show w.heap.size ≤ g by omega) _⟩, by simp [intOf]; omega⟩
      · have e := hq.out
        rw [List.drop_eq_nil_of_le (by omega)] at e
        obtain ⟨x0, x1, x2, x3, x4, x5, x6, x7, x8, x9, x10, x11, x12, x13, x14, rfl⟩ := list15 lc hlc
        have H0 := Lib.hid (show rv = fgEnd [x0, x1, x2, x3, x4, x5, x6, x7, x8, x9, x10, x11, x12, x13, x14] la by rw [EF.out, ← e]; rfl)
        have HNN := Lib.hid hnn.out
        have hG' : wr.heap[g]? = some (.cells #[.int .i64 x0, .int .i64 x1, .int .i64 x2, .int .i64 x3, .int .i64 x4, .int .i64 x5, .int .i64 x6, .int .i64 x7, .int .i64 x8, .int .i64 x9, .int .i64 x10, .int .i64 x11, .int .i64 x12, .int .i64 x13, .int .i64 x14] 86 (0, 0)) := hG
        have z0 := cell_of_row wr g 0 _ _ _ hG'
        have z1 := cell_of_row wr g 1 _ _ _ hG'
        have z2 := cell_of_row wr g 2 _ _ _ hG'
        have z3 := cell_of_row wr g 3 _ _ _ hG'
        have z4 := cell_of_row wr g 4 _ _ _ hG'
        have z5 := cell_of_row wr g 5 _ _ _ hG'
        have z6 := cell_of_row wr g 6 _ _ _ hG'
        have z7 := cell_of_row wr g 7 _ _ _ hG'
        have z8 := cell_of_row wr g 8 _ _ _ hG'
        have z9 := cell_of_row wr g 9 _ _ _ hG'
        have z10 := cell_of_row wr g 10 _ _ _ hG'
        have z11 := cell_of_row wr g 11 _ _ _ hG'
        have z12 := cell_of_row wr g 12 _ _ _ hG'
        have z13 := cell_of_row wr g 13 _ _ _ hG'
        have z14 := cell_of_row wr g 14 _ _ _ hG'
        have zf : wr.frozen? ⟨g, 9, none⟩ = false := by simp [World.frozen?, hG]
        clear e hq hlc hnn EF HR
        by_cases v1 : x14 < la
        · have HV := Lib.hid (show rv = (zL, 12) by rw [H0.out, fgEnd15]; rw [if_pos (.inl v1)])
          go_wp2_with (refine wpList_store_row rfl 28 _ _ rfl w.heap.size #[.int .i64 0, .int .i64 0, .int .i64 0, .int .i64 0, .int .i64 0, .int .i64 0, .int .i64 0, .int .i64 0, .int .i64 0, .int .i64 0, .int .i64 0, .int .i64 0, .int .i64 0, .int .i64 0, .int .i64 0] rfl rfl 28 _ hF ?_ ?_ ?_ ?_; (focus (exact infoRd)); (focus rfl); (focus (simp [Value.oneCell'])))
          exact fgPost z15_eq rfl rfl (by rw [HV.out] <;> rfl) (by rw [HV.out] <;> rfl) rfl hF hbW
        by_cases v2 : 3 < x14
        · have HV := Lib.hid (show rv = (zL, 12) by rw [H0.out, fgEnd15]; rw [if_pos (.inr v2)])
          go_wp2_with (refine wpList_store_row rfl 28 _ _ rfl w.heap.size #[.int .i64 0, .int .i64 0, .int .i64 0, .int .i64 0, .int .i64 0, .int .i64 0, .int .i64 0, .int .i64 0, .int .i64 0, .int .i64 0, .int .i64 0, .int .i64 0, .int .i64 0, .int .i64 0, .int .i64 0] rfl rfl 28 _ hF ?_ ?_ ?_ ?_; (focus (exact infoRd)); (focus rfl); (focus (simp [Value.oneCell'])))
          exact fgPost z15_eq rfl rfl (by rw [HV.out] <;> rfl) (by rw [HV.out] <;> rfl) rfl hF hbW
        have nv : ¬ (x14 < la ∨ 3 < x14) := by omega
        by_cases c4 : x1 = 4
        · have c4b : (x1 != 4) = false := by simpa using c4
          have C4 := Lib.hid c4
          clear c4
          by_cases k1 : 100 ≤ x11
          · have HV := Lib.hid (show rv = (zL, 9) by rw [H0.out, fgEnd15]; rw [if_neg nv, if_pos C4.out]; rw [if_pos (.inl k1)])
            go_wp2_with (refine wpList_store_row rfl 28 _ _ rfl w.heap.size #[.int .i64 0, .int .i64 0, .int .i64 0, .int .i64 0, .int .i64 0, .int .i64 0, .int .i64 0, .int .i64 0, .int .i64 0, .int .i64 0, .int .i64 0, .int .i64 0, .int .i64 0, .int .i64 0, .int .i64 0] rfl rfl 28 _ hF ?_ ?_ ?_ ?_; (focus (exact infoRd)); (focus rfl); (focus (simp [Value.oneCell'])))
            exact fgPost z15_eq rfl rfl (by rw [HV.out] <;> rfl) (by rw [HV.out] <;> rfl) rfl hF hbW
          cases hT : tkB x0 x1 x2 x3 x4 x5 x6 x7 x8 x9 x10 with
          | false =>
            have HV := Lib.hid (show rv = (zL, 9) by rw [H0.out, fgEnd15]; rw [if_neg nv, if_pos C4.out]; rw [if_pos (.inr hT)])
            go_wp2_with (first | (go_at_call 72; (with_reducible refine (tk_any x0 x1 x2 x3 x4 x5 x6 x7 x8 x9 x10 _).mono ?_); rintro e w5 ⟨he, hb5⟩; rw [hT] at he; subst he; have hF5 := (hb5.block w.heap.size (Array.getElem?_eq_some_iff.1 hF).1).trans hF; have hG5 := (hb5.block g (Array.getElem?_eq_some_iff.1 hG).1).trans hG; have hB5 := bT hbW hb5; clear hb5) | (refine wpList_store_row rfl 28 _ _ rfl w.heap.size #[.int .i64 0, .int .i64 0, .int .i64 0, .int .i64 0, .int .i64 0, .int .i64 0, .int .i64 0, .int .i64 0, .int .i64 0, .int .i64 0, .int .i64 0, .int .i64 0, .int .i64 0, .int .i64 0, .int .i64 0] rfl rfl 28 _ hF5 ?_ ?_ ?_ ?_; (focus (exact infoRd)); (focus rfl); (focus (simp [Value.oneCell']))))
            exact fgPost z15_eq rfl rfl (by rw [HV.out] <;> rfl) (by rw [HV.out] <;> rfl) rfl hF5 hB5
          | true =>
            have HV := Lib.hid (show rv = ([x0, x1, x2, x3, x4, x5, x6, x7, x8, x9, x10, x11, x12, x13, x14], 0) by rw [H0.out, fgEnd15]; rw [if_neg nv, if_pos C4.out]; rw [if_neg (fun h => h.elim k1 (fun h => by rw [show tkL [x0, x1, x2, x3, x4, x5, x6, x7, x8, x9, x10, x11, x12, x13, x14] = true from hT] at h; cases h))])
            go_wp2_with (first | (go_at_call 72; (with_reducible refine (tk_any x0 x1 x2 x3 x4 x5 x6 x7 x8 x9 x10 _).mono ?_); rintro e w5 ⟨he, hb5⟩; rw [hT] at he; subst he; have hF5 := (hb5.block w.heap.size (Array.getElem?_eq_some_iff.1 hF).1).trans hF; have hG5 := (hb5.block g (Array.getElem?_eq_some_iff.1 hG).1).trans hG; have hB5 := bT hbW hb5; clear hb5) | (refine wpList_load_row rfl 28 (.tmp 122) rfl g rfl 86 #[.int .i64 x0, .int .i64 x1, .int .i64 x2, .int .i64 x3, .int .i64 x4, .int .i64 x5, .int .i64 x6, .int .i64 x7, .int .i64 x8, .int .i64 x9, .int .i64 x10, .int .i64 x11, .int .i64 x12, .int .i64 x13, .int .i64 x14] (0, 0) _ hG5 Try.underlying28 rfl ?_ ?_; (focus (exact infoRd))) | (refine wpList_store_row rfl 28 _ _ rfl w.heap.size #[.int .i64 x0, .int .i64 x1, .int .i64 x2, .int .i64 x3, .int .i64 x4, .int .i64 x5, .int .i64 x6, .int .i64 x7, .int .i64 x8, .int .i64 x9, .int .i64 x10, .int .i64 x11, .int .i64 x12, .int .i64 x13, .int .i64 x14] rfl rfl 28 _ hF5 ?_ ?_ ?_ ?_; (focus (exact infoRd)); (focus rfl); (focus (simp [Value.oneCell']))))
            exact fgPost (l := [x0, x1, x2, x3, x4, x5, x6, x7, x8, x9, x10, x11, x12, x13, x14]) rfl rfl rfl (by rw [HV.out] <;> rfl) (by rw [HV.out] <;> rfl) rfl hF5 hB5
        have c4b : (x1 != 4) = true := by simpa using c4
        have C4 := Lib.hid c4
        clear c4
        by_cases u9 : x9 = 0
        rotate_left
        · have u9b : (x9 != 0) = true := by simpa using u9
          have HV := Lib.hid (show rv = (zL, 9) by rw [H0.out, fgEnd15]; rw [if_neg nv, if_neg C4.out, if_pos u9])
          clear u9
          go_wp2_with (refine wpList_store_row rfl 28 _ _ rfl w.heap.size #[.int .i64 0, .int .i64 0, .int .i64 0, .int .i64 0, .int .i64 0, .int .i64 0, .int .i64 0, .int .i64 0, .int .i64 0, .int .i64 0, .int .i64 0, .int .i64 0, .int .i64 0, .int .i64 0, .int .i64 0] rfl rfl 28 _ hF ?_ ?_ ?_ ?_; (focus (exact infoRd)); (focus rfl); (focus (simp [Value.oneCell'])))
          exact fgPost z15_eq rfl rfl (by rw [HV.out] <;> rfl) (by rw [HV.out] <;> rfl) rfl hF hbW
        have U9 := Lib.hid u9
        have u9b : (x9 != 0) = false := by simpa using u9
        clear u9
        have htm : x1.tmod 3 = x1 % 3 := Int.tmod_eq_emod_of_nonneg (HNN.out x1 (by simp))
        obtain ⟨m3, hm3⟩ : ∃ m3, x1 % 3 = m3 := ⟨_, rfl⟩
        rw [hm3] at htm
        have hm9 : 0 ≤ m3 ∧ m3 < 3 := by omega
        have hwm : IntKind.i64.wrap m3 = m3 := by rw [IntKind.wrap_i64]; omega
        have HM3 := Lib.hid hm3
        clear hm3
        have hG9 : (wr.setCell ⟨g, 9, none⟩ (.int .i64 m3)).heap[g]? = some (.cells #[.int .i64 x0, .int .i64 x1, .int .i64 x2, .int .i64 x3, .int .i64 x4, .int .i64 x5, .int .i64 x6, .int .i64 x7, .int .i64 x8, .int .i64 m3, .int .i64 x10, .int .i64 x11, .int .i64 x12, .int .i64 x13, .int .i64 x14] 86 (0, 0)) := row_ivset (l := [x0, x1, x2, x3, x4, x5, x6, x7, x8, x9, x10, x11, x12, x13, x14]) 9 m3 hG
        have y0 := cell_of_row _ g 0 _ _ _ hG9
        have y1 := cell_of_row _ g 1 _ _ _ hG9
        have y2 := cell_of_row _ g 2 _ _ _ hG9
        have y3 := cell_of_row _ g 3 _ _ _ hG9
        have y4 := cell_of_row _ g 4 _ _ _ hG9
        have y5 := cell_of_row _ g 5 _ _ _ hG9
        have y6 := cell_of_row _ g 6 _ _ _ hG9
        have y7 := cell_of_row _ g 7 _ _ _ hG9
        have y8 := cell_of_row _ g 8 _ _ _ hG9
        have y9 := cell_of_row _ g 9 _ _ _ hG9
        have y10 := cell_of_row _ g 10 _ _ _ hG9
        have y11 := cell_of_row _ g 11 _ _ _ hG9
        have y12 := cell_of_row _ g 12 _ _ _ hG9
        have y13 := cell_of_row _ g 13 _ _ _ hG9
        have y14 := cell_of_row _ g 14 _ _ _ hG9
        have hF9 : (wr.setCell ⟨g, 9, none⟩ (.int .i64 m3)).heap[w.heap.size]? = some (.cells #[.int .i64 0, .int .i64 0, .int .i64 0, .int .i64 0, .int .i64 0, .int .i64 0, .int .i64 0, .int .i64 0, .int .i64 0, .int .i64 0, .int .i64 0, .int .i64 0, .int .i64 0, .int .i64 0, .int .i64 0] 28 (0, 0)) := (Below.heap_setCell _ _ _ _ (by show w.heap.size ≠ g; omega)).trans hF
        have hB9 : Below w.heap.size w (wr.setCell ⟨g, 9, none⟩ (.int .i64 m3)) := hbW.setCell (p := ⟨g, 9, none⟩) (show w.heap.size ≤ g by omega) _
        by_cases k1 : 100 ≤ x11
        · have HV := Lib.hid (show rv = (zL, 9) by rw [H0.out, fgEnd15]; rw [if_neg nv, if_neg C4.out, if_neg (fun h => h U9.out), HM3.out]; rw [if_pos (.inl k1)])
          go_wp2_with (refine wpList_store_row rfl 28 _ _ rfl w.heap.size #[.int .i64 0, .int .i64 0, .int .i64 0, .int .i64 0, .int .i64 0, .int .i64 0, .int .i64 0, .int .i64 0, .int .i64 0, .int .i64 0, .int .i64 0, .int .i64 0, .int .i64 0, .int .i64 0, .int .i64 0] rfl rfl 28 _ hF9 ?_ ?_ ?_ ?_; (focus (exact infoRd)); (focus rfl); (focus (simp [Value.oneCell'])))
          exact fgPost z15_eq rfl rfl (by rw [HV.out] <;> rfl) (by rw [HV.out] <;> rfl) rfl hF9 hB9
        cases hT : tkB x0 x1 x2 x3 x4 x5 x6 x7 x8 m3 x10 with
        | false =>
          have HV := Lib.hid (show rv = (zL, 9) by rw [H0.out, fgEnd15]; rw [if_neg nv, if_neg C4.out, if_neg (fun h => h U9.out), HM3.out]; rw [if_pos (.inr hT)])
          go_wp2_with (first | (go_at_call 72; (with_reducible refine (tk_any x0 x1 x2 x3 x4 x5 x6 x7 x8 m3 x10 _).mono ?_); rintro e w5 ⟨he, hb5⟩; rw [hT] at he; subst he; have hF5 := (hb5.block w.heap.size (Array.getElem?_eq_some_iff.1 hF9).1).trans hF9; have hG5 := (hb5.block g (Array.getElem?_eq_some_iff.1 hG9).1).trans hG9; have hB5 := bT hB9 hb5; clear hb5) | (refine wpList_store_row rfl 28 _ _ rfl w.heap.size #[.int .i64 0, .int .i64 0, .int .i64 0, .int .i64 0, .int .i64 0, .int .i64 0, .int .i64 0, .int .i64 0, .int .i64 0, .int .i64 0, .int .i64 0, .int .i64 0, .int .i64 0, .int .i64 0, .int .i64 0] rfl rfl 28 _ hF5 ?_ ?_ ?_ ?_; (focus (exact infoRd)); (focus rfl); (focus (simp [Value.oneCell']))))
          exact fgPost z15_eq rfl rfl (by rw [HV.out] <;> rfl) (by rw [HV.out] <;> rfl) rfl hF5 hB5
        | true =>
          have HV := Lib.hid (show rv = ([x0, x1, x2, x3, x4, x5, x6, x7, x8, m3, x10, x11, x12, x13, x14], 0) by rw [H0.out, fgEnd15]; rw [if_neg nv, if_neg C4.out, if_neg (fun h => h U9.out), HM3.out]; rw [if_neg (fun h => h.elim k1 (fun h => by rw [show tkL [x0, x1, x2, x3, x4, x5, x6, x7, x8, m3, x10, x11, x12, x13, x14] = true from hT] at h; cases h))])
          go_wp2_with (first | (go_at_call 72; (with_reducible refine (tk_any x0 x1 x2 x3 x4 x5 x6 x7 x8 m3 x10 _).mono ?_); rintro e w5 ⟨he, hb5⟩; rw [hT] at he; subst he; have hF5 := (hb5.block w.heap.size (Array.getElem?_eq_some_iff.1 hF9).1).trans hF9; have hG5 := (hb5.block g (Array.getElem?_eq_some_iff.1 hG9).1).trans hG9; have hB5 := bT hB9 hb5; clear hb5) | (refine wpList_load_row rfl 28 (.tmp 122) rfl g rfl 86 #[.int .i64 x0, .int .i64 x1, .int .i64 x2, .int .i64 x3, .int .i64 x4, .int .i64 x5, .int .i64 x6, .int .i64 x7, .int .i64 x8, .int .i64 m3, .int .i64 x10, .int .i64 x11, .int .i64 x12, .int .i64 x13, .int .i64 x14] (0, 0) _ hG5 Try.underlying28 rfl ?_ ?_; (focus (exact infoRd))) | (refine wpList_store_row rfl 28 _ _ rfl w.heap.size #[.int .i64 x0, .int .i64 x1, .int .i64 x2, .int .i64 x3, .int .i64 x4, .int .i64 x5, .int .i64 x6, .int .i64 x7, .int .i64 x8, .int .i64 m3, .int .i64 x10, .int .i64 x11, .int .i64 x12, .int .i64 x13, .int .i64 x14] rfl rfl 28 _ hF5 ?_ ?_ ?_ ?_; (focus (exact infoRd)); (focus rfl); (focus (simp [Value.oneCell']))))
          exact fgPost (l := [x0, x1, x2, x3, x4, x5, x6, x7, x8, m3, x10, x11, x12, x13, x14]) rfl rfl rfl (by rw [HV.out] <;> rfl) (by rw [HV.out] <;> rfl) rfl hF5 hB5
end Go.Proofs.Ytachkhjbckapoaa

/- Layer 5: what ring.Is tells, for all keys. No condition. -/
import Derived.Test.YtiogogbkgekkdaaRing
import Derived.Deep.RegionHeld3
namespace Go.Proofs.Ytiogogbkgekkdaa
open Go.RowKit Go.Shelf
set_option linter.unusedVariables false
set_option maxRecDepth 100000
set_option linter.unusedSimpArgs false

/-- The key at a place of memory. -/
def KeyAt (w : World) (p : Addr) (k : Ky) : Prop :=
  ∃ (B : Option Addr) (c : Nat), w.cell? p = some (.int .i64 k.id) ∧ w.cell? ⟨p.block, p.off + 1, none⟩ = some (.slice B k.sec.length c) ∧ w.cell? ⟨p.block, p.off + 2, none⟩ = some (.int .i64 k.fr) ∧ w.cell? ⟨p.block, p.off + 3, none⟩ = some (.int .i64 k.til) ∧ k.sec.length ≤ c ∧ c ≤ 9223372036854775807 ∧ RdI w .u8 B k.sec ∧ ∀ x ∈ k.sec, 0 ≤ x ∧ x < 256
/-- The slice at A reads as the keys l. -/
def RdK (w : World) (A : Option Addr) (l : List Ky) : Prop :=
  l = [] ∨ ∃ ad, A = some ad ∧ ad.block < w.heap.size ∧ ∀ j, (h : j < l.length) → KeyAt w (ad.add (j * 4)) l[j]
theorem KeyAt.below {w w' : World} {p : Addr} {n : Nat} {k : Ky} (h : KeyAt w p k) (hb : Below n w w') (hn : w.heap.size ≤ n) : KeyAt w' p k := by
  obtain ⟨B, c, h1, h2, h3, h4, h5, h6, h7, h8⟩ := h
  have K : ∀ {a : Addr} {v : Value}, w.cell? a = some v → w'.cell? a = some v := fun hc => (hb.cell (Nat.lt_of_lt_of_le (World.block_lt_of_cell? w _ hc) hn)).trans hc
  exact ⟨B, c, K h1, K h2, K h3, K h4, h5, h6, h7.keep hb.size (fun b hbn => hb.block b (Nat.lt_of_lt_of_le hbn hn)), h8⟩
theorem RdK.below {w w' : World} {A : Option Addr} {l : List Ky} {n : Nat} (h : RdK w A l) (hb : Below n w w') (hn : w.heap.size ≤ n) : RdK w' A l := by
  rcases h with h | ⟨ad, e, hlt, hk⟩
  · exact .inl h
  · exact .inr ⟨ad, e, Nat.lt_of_lt_of_le hlt hb.size, fun j hj => (hk j hj).below hb hn⟩
theorem ringGo_cons (last : Int) (k : Ky) (t : List Ky) : ringGo last (k :: t) = (rightB k && decide (last < k.id) && ringGo k.id t) := rfl

theorem is1_any (B : Option Addr) (n c : Nat) (k : Ky) (hn : k.sec.length = n) (last : Int) (g : Nat) (w : World) (hg : Boxed w g 3 (.int .i64 last)) :
    Calls Try.prog 95 #[.agg #[.int .i64 k.id, .slice B n c, .int .i64 k.fr, .int .i64 k.til], .pointer (some ⟨g, 0, none⟩)] w fun e w' => e = .returned (.bool (!(rightB k && decide (last < k.id)))) ∧ Boxed w' g 3 (.int .i64 k.id) ∧ Below g w w' := by
  have hR := right_any B n c k hn
  obtain ⟨z, hz⟩ : ∃ z, rightB k = z := ⟨_, rfl⟩
  rw [hz] at hR ⊢
  clear hz
  obtain ⟨id, sec, fr, til⟩ := k
  have hc := hg.cell
  have hf := hg.frozen
  have hlt : g < w.heap.size := (Array.getElem?_eq_some_iff.1 hg).1
  have hx0 : ((w.setCell ⟨g, 0, none⟩ (.int .i64 id)).alloc (.cells #[.int .i64 id, .slice B n c, .int .i64 fr, .int .i64 til] 26)).cell? ⟨w.heap.size, 0, none⟩ = some (.int .i64 id) := by
    have h := heap_alloc_new (w.setCell ⟨g, 0, none⟩ (.int .i64 id)) (.cells #[.int .i64 id, .slice B n c, .int .i64 fr, .int .i64 til] 26)
    rw [show (w.setCell ⟨g, 0, none⟩ (.int .i64 id)).heap.size = w.heap.size by simp] at h
    exact cell_of_row _ _ _ _ _ _ h
  have hb1 : Below g w ((w.setCell ⟨g, 0, none⟩ (.int .i64 id)).alloc (.cells #[.int .i64 id, .slice B n c, .int .i64 fr, .int .i64 til] 26)) := ((Below.refl g w).setCell (p := ⟨g, 0, none⟩) (Nat.le_refl _) _).alloc (by simp; omega) _
  have hsz1 : g < ((w.setCell ⟨g, 0, none⟩ (.int .i64 id)).alloc (.cells #[.int .i64 id, .slice B n c, .int .i64 fr, .int .i64 til] 26)).heap.size := by simp; omega
  have hsz2 : w.heap.size < ((w.setCell ⟨g, 0, none⟩ (.int .i64 id)).alloc (.cells #[.int .i64 id, .slice B n c, .int .i64 fr, .int .i64 til] 26)).heap.size := by simp
  have hg1 : Boxed ((w.setCell ⟨g, 0, none⟩ (.int .i64 id)).alloc (.cells #[.int .i64 id, .slice B n c, .int .i64 fr, .int .i64 til] 26)) g 3 (.int .i64 id) := (hg.set _).alloc _
  cases z with
  | false =>
    go_enter Try.func95, Try.ntmps95
    go_wp2_with (go_at_call 76; (with_reducible refine (hR _).mono ?_); rintro e w' ⟨rfl, hb⟩; go_loud (have hx := (hb.cell (p := ⟨w.heap.size, 0, none⟩) hsz2).trans hx0; have hbx := hb1.trans (hb.mono (Nat.le_of_lt hsz1)); have hgx := hb.block g hsz1))
    go_ret
    exact ⟨rfl, hgx.trans hg1, hbx⟩
  | true =>
    by_cases hl : id ≤ last
    · have hd : decide (last < id) = false := by rw [decide_eq_false_iff_not]; omega
      rw [hd]
      go_enter Try.func95, Try.ntmps95
      go_wp2_with (go_at_call 76; (with_reducible refine (hR _).mono ?_); rintro e w' ⟨rfl, hb⟩; go_loud (have hx := (hb.cell (p := ⟨w.heap.size, 0, none⟩) hsz2).trans hx0; have hbx := hb1.trans (hb.mono (Nat.le_of_lt hsz1)); have hgx := hb.block g hsz1))
      go_ret
      exact ⟨rfl, hgx.trans hg1, hbx⟩
    · have hd : decide (last < id) = true := by rw [decide_eq_true_eq]; omega
      have hd2 : decide (id ≤ last) = false := by rw [decide_eq_false_iff_not]; omega
      rw [hd]
      go_enter Try.func95, Try.ntmps95
      go_wp2_with (go_at_call 76; (with_reducible refine (hR _).mono ?_); rintro e w' ⟨rfl, hb⟩; go_loud (have hx := (hb.cell (p := ⟨w.heap.size, 0, none⟩) hsz2).trans hx0; have hbx := hb1.trans (hb.mono (Nat.le_of_lt hsz1)); have hgx := hb.block g hsz1))
      go_ret
      exact ⟨rfl, hgx.trans hg1, hbx⟩

set_option maxHeartbeats 4000000 in
theorem ringIdx_any (A : Option Addr) (c : Nat) (l : List Ky) (last : Int) (g : Nat) (w : World) (hg : Boxed w g 3 (.int .i64 last)) (hr : ∀ w', Below g w w' → RdK w' A l) (hl : l.length ≤ 9223372036854775807) :
    Calls Try.prog 136 #[.slice A l.length c, .func (.func 95) #[] #[.pointer (some ⟨g, 0, none⟩)]] w fun e w' => (∃ z : Int, e = .returned (.int .i64 z) ∧ (0 ≤ z ↔ ringGo last l = false)) ∧ Below g w w' := by
  go_enter Try.func136, Try.ntmps136
  go_wp2
  go_loopw [5, 8] (fun _ i wr => ∃ (k : Nat) (la : Int), k ≤ l.length ∧ i = .int .i64 k ∧ Boxed wr g 3 (.int .i64 la) ∧ Hid (ringGo la (l.drop k) = ringGo last l) ∧ Below g w wr) (fun _ i _ => l.length - (intOf i).toNat)
  case atStart => exact ⟨0, last, Nat.zero_le _, rfl, hg, Lib.hid (by simp), Below.refl _ _⟩
  case round =>
    obtain ⟨k, la, hk, rfl, hb, hq, hbW⟩ := hrel
    by_cases hlt : k < l.length
    · have e := hq.out
      rw [List.drop_eq_getElem_cons hlt, ringGo_cons] at e
      rcases hr wr hbW with h0 | ⟨ad, rfl, _, hka⟩
      · simp [h0] at hlt
      obtain ⟨B, c2, c0, c1, c22, c3, hcl, hcc, hsr, hsb⟩ := hka k hlt
      generalize l[k] = ky at *
      have HE := Lib.hid e
      clear e hq hka
      have k0 : (0 : Int) ≤ (k : Int) := by omega
      have k1 : (k : Int) < (l.length : Int) := by omega
      obtain ⟨n2, hn2⟩ : ∃ n2, ky.sec.length = n2 := ⟨_, rfl⟩
      rw [hn2] at c1
      have hI := fun W hbb => is1_any B n2 c2 ky hn2 la g W hbb
      cases hz : (rightB ky && decide (la < ky.id)) with
      | true =>
        have e := HE.out
        rw [hz, Bool.true_and] at e
        have HX := Lib.hid e
        clear e HE
        rw [hz] at hI
        clear hz
        go_wp2_with (go_at_call 95; (with_reducible refine (hI _ hb).mono ?_); rintro e w' ⟨rfl, hb2, hbl2⟩)
        go_roundw
        case rel => exact ⟨k + 1, _, by omega, by go_num, hb2, HX, hbW.trans hbl2⟩
        case measure => simp [intOf]; omega
      | false =>
        have e := HE.out
        rw [hz, Bool.false_and] at e
        have HX := Lib.hid e
        clear e HE
        rw [hz] at hI
        clear hz
        go_wp2_with (go_at_call 95; (with_reducible refine (hI _ hb).mono ?_); rintro e w' ⟨rfl, hb2, hbl2⟩)
        go_ret
        exact ⟨⟨_, rfl, ⟨fun _ => HX.out.symm, fun _ => by omega⟩⟩, hbW.trans hbl2⟩
    · have e := hq.out
      rw [List.drop_eq_nil_of_le (by omega)] at e
      have HE := Lib.hid (show ringGo last l = true from e.symm)
      clear e hq
      go_wp2
      go_ret
      exact ⟨⟨_, rfl, ⟨fun h => by omega, fun h => by rw [HE.out] at h; cases h⟩⟩, hbW⟩

theorem ringHas_any (A : Option Addr) (c : Nat) (l : List Ky) (last : Int) (g : Nat) (w : World) (hg : Boxed w g 3 (.int .i64 last)) (hr : ∀ w', Below g w w' → RdK w' A l) (hl : l.length ≤ 9223372036854775807) :
    Calls Try.prog 94 #[.slice A l.length c, .func (.func 95) #[] #[.pointer (some ⟨g, 0, none⟩)]] w fun e w' => e = .returned (.bool (!(ringGo last l))) ∧ Below g w w' := by
  cases hz : ringGo last l with
  | true =>
    have HZ := Lib.hid hz
    go_enter Try.func94, Try.ntmps94
    go_wp2_with (go_at_call 136; (with_reducible refine (ringIdx_any A c l last g _ hg hr hl).mono ?_); rintro e w' ⟨⟨z, rfl, hz2⟩, hb⟩; have hneg : decide (0 ≤ z) = false := (by rw [decide_eq_false_iff_not]; intro h; have := hz2.1 h; rw [HZ.out] at this; cases this); clear hz2)
    go_ret
    exact ⟨by first | rfl | simp [hneg], hb⟩
  | false =>
    have HZ := Lib.hid hz
    go_enter Try.func94, Try.ntmps94
    go_wp2_with (go_at_call 136; (with_reducible refine (ringIdx_any A c l last g _ hg hr hl).mono ?_); rintro e w' ⟨⟨z, rfl, hz2⟩, hb⟩; have hneg : decide (0 ≤ z) = true := (by rw [decide_eq_true_eq]; exact hz2.2 HZ.out); clear hz2)
    go_ret
    exact ⟨by first | rfl | simp [hneg], hb⟩

theorem ringIs_any (A : Option Addr) (c : Nat) (l : List Ky) (w : World) (hr : RdK w A l) (hl : l.length ≤ 9223372036854775807) :
    Calls Try.prog 46 #[.slice A l.length c] w fun e w' => e = .returned (.bool (ringB l)) ∧ Below w.heap.size w w' := by
  have hmf : ∀ (fn : Fn) (first cap : Array Value) (w : World), (Instr.makeFunc fn first cap).run Try.prog w = .ok (.func fn first cap) w := fun _ _ _ _ => rfl
  have hG := Boxed.new w 3 (.int .i64 (-1))
  have hK : ∀ w', Below w.heap.size (w.alloc (.cells #[.int .i64 (-1)] 3)) w' → RdK w' A l := fun w' hb => hr.below ((bel1 w _).trans hb) (Nat.le_refl _)
  go_enter Try.func46, Try.ntmps46
  go_wp2_with (go_at_call 94; (with_reducible refine (ringHas_any A c l (-1) w.heap.size _ hG hK hl).mono ?_); rintro e w' ⟨rfl, hb⟩)
  go_ret
  exact ⟨by simp [ringB], (bel1 w _).trans hb⟩
end Go.Proofs.Ytiogogbkgekkdaa

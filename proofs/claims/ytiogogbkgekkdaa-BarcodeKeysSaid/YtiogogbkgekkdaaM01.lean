/- Layer 5: keys and rings of them: what they are, what ring.right tells. Layer 5: what ring.Is tells, for all keys. An argument that is a slice of keys: it reads as a list of keys. Digits as a number: what bcd.Get and its reference compute, for every row of bytes. No condition. -/
import Derived.Test.YtiogogbkgekkdaaM00
import Derived.Deep.RegionHeld3
import Derived.ChangeArms
import Derived.DataReads
import Derived.LoopTactic
import Derived.IntWalk
namespace Go.Proofs.Ytiogogbkgekkdaa
open Go.RowKit
set_option linter.unusedVariables false
set_option maxRecDepth 100000
set_option linter.unusedSimpArgs false

/-- A key: its number, its secret, its days. -/
structure Ky where
  id : Int
  sec : List Int
  fr : Int
  til : Int
def rightB (k : Ky) : Bool := wB k.id 0 99 && (decide (1 ≤ k.sec.length) && decide (k.sec.length ≤ 64)) && (decide (0 ≤ k.fr) && decide (k.fr ≤ k.til) && decide (k.til ≤ 99999))
/-- A ring: right keys, each of a greater number than the one ahead of it. -/
def ringGo : Int → List Ky → Bool
  | _, [] => true
  | last, k :: t => rightB k && decide (last < k.id) && ringGo k.id t
def ringB (l : List Ky) : Bool := ringGo (-1) l

theorem right_any (B : Option Addr) (n c : Nat) (k : Ky) (hn : k.sec.length = n) (w : World) :
    Calls Try.prog 76 #[.agg #[.int .i64 k.id, .slice B n c, .int .i64 k.fr, .int .i64 k.til]] w fun e w' => e = .returned (.bool (rightB k)) ∧ Below w.heap.size w w' := by
  subst hn
  obtain ⟨id, sec, fr, til⟩ := k
  show Calls _ _ #[.agg #[.int .i64 id, .slice B sec.length c, .int .i64 fr, .int .i64 til]] _ _
  by_cases h1 : 0 ≤ id
  rotate_left
  · have E := Lib.hid (show rightB ⟨id, sec, fr, til⟩ = false by unfold rightB; rw [wB_no (.inl (by simp; omega))]; rfl)
    go_enter Try.func76, Try.ntmps76
    go_wp2
    go_ret
    exact ⟨by rw [E.out] <;> rfl, (by repeat (first | (with_reducible exact bR _) | (with_reducible refine bT ?_ (by assumption)) | (with_reducible apply bA) | (with_reducible apply bD) | (with_reducible apply bN) | (with_reducible refine bS ?_ (by first | omega | (simp; done) | (simp; omega)))))⟩
  by_cases h2 : id < 100
  rotate_left
  · have E := Lib.hid (show rightB ⟨id, sec, fr, til⟩ = false by unfold rightB; rw [wB_no (.inr (by simp; omega))]; rfl)
    go_enter Try.func76, Try.ntmps76
    go_wp2
    go_ret
    exact ⟨by rw [E.out] <;> rfl, (by repeat (first | (with_reducible exact bR _) | (with_reducible refine bT ?_ (by assumption)) | (with_reducible apply bA) | (with_reducible apply bD) | (with_reducible apply bN) | (with_reducible refine bS ?_ (by first | omega | (simp; done) | (simp; omega)))))⟩
  have E1 := wB_mk (n := id) (a := 0) (b := 99) h1 (by omega)
  by_cases h3 : 1 ≤ sec.length
  rotate_left
  · have E := Lib.hid (show rightB ⟨id, sec, fr, til⟩ = false by simp [rightB, h3])
    have h3' : ¬ (1 : Int) ≤ (sec.length : Int) := by omega
    go_enter Try.func76, Try.ntmps76
    go_wp2
    go_ret
    exact ⟨by rw [E.out] <;> rfl, (by repeat (first | (with_reducible exact bR _) | (with_reducible refine bT ?_ (by assumption)) | (with_reducible apply bA) | (with_reducible apply bD) | (with_reducible apply bN) | (with_reducible refine bS ?_ (by first | omega | (simp; done) | (simp; omega)))))⟩
  have h3' : (1 : Int) ≤ (sec.length : Int) := by omega
  by_cases h4 : sec.length ≤ 64
  rotate_left
  · have E := Lib.hid (show rightB ⟨id, sec, fr, til⟩ = false by simp [rightB, h4])
    have h4' : ¬ (sec.length : Int) ≤ 64 := by omega
    go_enter Try.func76, Try.ntmps76
    go_wp2
    go_ret
    exact ⟨by rw [E.out] <;> rfl, (by repeat (first | (with_reducible exact bR _) | (with_reducible refine bT ?_ (by assumption)) | (with_reducible apply bA) | (with_reducible apply bD) | (with_reducible apply bN) | (with_reducible refine bS ?_ (by first | omega | (simp; done) | (simp; omega)))))⟩
  have h4' : (sec.length : Int) ≤ 64 := by omega
  by_cases h5 : 0 ≤ fr
  rotate_left
  · have E := Lib.hid (show rightB ⟨id, sec, fr, til⟩ = false by simp [rightB, h5])
    go_enter Try.func76, Try.ntmps76
    go_wp2
    go_ret
    exact ⟨by rw [E.out] <;> rfl, (by repeat (first | (with_reducible exact bR _) | (with_reducible refine bT ?_ (by assumption)) | (with_reducible apply bA) | (with_reducible apply bD) | (with_reducible apply bN) | (with_reducible refine bS ?_ (by first | omega | (simp; done) | (simp; omega)))))⟩
  by_cases h6 : fr ≤ til
  rotate_left
  · have E := Lib.hid (show rightB ⟨id, sec, fr, til⟩ = false by simp [rightB, h6])
    go_enter Try.func76, Try.ntmps76
    go_wp2
    go_ret
    exact ⟨by rw [E.out] <;> rfl, (by repeat (first | (with_reducible exact bR _) | (with_reducible refine bT ?_ (by assumption)) | (with_reducible apply bA) | (with_reducible apply bD) | (with_reducible apply bN) | (with_reducible refine bS ?_ (by first | omega | (simp; done) | (simp; omega)))))⟩
  by_cases h7 : til ≤ 99999
  rotate_left
  · have E := Lib.hid (show rightB ⟨id, sec, fr, til⟩ = false by simp [rightB, h7])
    go_enter Try.func76, Try.ntmps76
    go_wp2
    go_ret
    exact ⟨by rw [E.out] <;> rfl, (by repeat (first | (with_reducible exact bR _) | (with_reducible refine bT ?_ (by assumption)) | (with_reducible apply bA) | (with_reducible apply bD) | (with_reducible apply bN) | (with_reducible refine bS ?_ (by first | omega | (simp; done) | (simp; omega)))))⟩
  have E := Lib.hid (show rightB ⟨id, sec, fr, til⟩ = true by simp only [rightB, E1, h3, h4, h5, h6, h7, decide_true, Bool.and_true])
  go_enter Try.func76, Try.ntmps76
  go_wp2
  go_ret
  exact ⟨by rw [E.out] <;> rfl, (by repeat (first | (with_reducible exact bR _) | (with_reducible refine bT ?_ (by assumption)) | (with_reducible apply bA) | (with_reducible apply bD) | (with_reducible apply bN) | (with_reducible refine bS ?_ (by first | omega | (simp; done) | (simp; omega)))))⟩
end Go.Proofs.Ytiogogbkgekkdaa

namespace Go.Proofs.Ytiogogbkgekkdaa
open Go.RowKit Go.Shelf
set_option linter.unusedVariables false
set_option maxRecDepth 100000
set_option linter.unusedSimpArgs false

/-- The key at a place of memory. -/
def KeyAt (w : World) (p : Addr) (k : Ky) : Prop :=
  ∃ (B : Option Addr) (c : Nat), w.cell? p = some (.int .i64 k.id) ∧ w.cell? ⟨p.block, p.off + 1, none⟩ = some (.slice B k.sec.length c) ∧ w.cell? ⟨p.block, p.off + 2, none⟩ = some (.int .i64 k.fr) ∧ w.cell? ⟨p.block, p.off + 3, none⟩ = some (.int .i64 k.til) ∧ k.sec.length ≤ c ∧ c ≤ 9223372036854775807 ∧ RdI w .u8 B k.sec ∧ ∀ x ∈ k.sec, 0 ≤ x ∧ x < 256
/-- The slice at A reads as the keys l. -/
def RdK (w : World) (A : Option Addr) (l : List Ky) : Prop :=
  l = [] ∨ ∃ ad, A = some ad ∧ ad.block < w.heap.size ∧ ∀ j, (h : j < l.length) → KeyAt w (ad.add (j * 4)) l[j]
theorem KeyAt.below {w w' : World} {p : Addr} {n : Nat} {k : Ky} (h : KeyAt w p k) (hb : Below n w w') (hn : w.heap.size ≤ n) : KeyAt w' p k := by
  obtain ⟨B, c, h1, h2, h3, h4, h5, h6, h7, h8⟩ := h
  have K : ∀ {a : Addr} {v : Value}, w.cell? a = some v → w'.cell? a = some v := fun hc => (hb.cell (Nat.lt_of_lt_of_le (World.block_lt_of_cell? w _ hc) hn)).trans hc
  exact ⟨B, c, K h1, K h2, K h3, K h4, h5, h6, h7.keep hb.size (fun b hbn => hb.block b (Nat.lt_of_lt_of_le hbn hn)), h8⟩
theorem RdK.below {w w' : World} {A : Option Addr} {l : List Ky} {n : Nat} (h : RdK w A l) (hb : Below n w w') (hn : w.heap.size ≤ n) : RdK w' A l := by
  rcases h with h | ⟨ad, e, hlt, hk⟩
  · exact .inl h
  · exact .inr ⟨ad, e, Nat.lt_of_lt_of_le hlt hb.size, fun j hj => (hk j hj).below hb hn⟩
theorem ringGo_cons (last : Int) (k : Ky) (t : List Ky) : ringGo last (k :: t) = (rightB k && decide (last < k.id) && ringGo k.id t) := rfl

theorem is1_any (B : Option Addr) (n c : Nat) (k : Ky) (hn : k.sec.length = n) (last : Int) (g : Nat) (w : World) (hg : Boxed w g 3 (.int .i64 last)) :
    Calls Try.prog 95 #[.agg #[.int .i64 k.id, .slice B n c, .int .i64 k.fr, .int .i64 k.til], .pointer (some ⟨g, 0, none⟩)] w fun e w' => e = .returned (.bool (!(rightB k && decide (last < k.id)))) ∧ Boxed w' g 3 (.int .i64 k.id) ∧ Below g w w' := by
  have hR := right_any B n c k hn
  obtain ⟨z, hz⟩ : ∃ z, rightB k = z := ⟨_, rfl⟩
  rw [hz] at hR ⊢
  clear hz
  obtain ⟨id, sec, fr, til⟩ := k
  have hc := hg.cell
  have hf := hg.frozen
  have hlt : g < w.heap.size := (Array.getElem?_eq_some_iff.1 hg).1
  have hx0 : ((w.setCell ⟨g, 0, none⟩ (.int .i64 id)).alloc (.cells #[.int .i64 id, .slice B n c, .int .i64 fr, .int .i64 til] 26)).cell? ⟨w.heap.size, 0, none⟩ = some (.int .i64 id) := by
    have h := heap_alloc_new (w.setCell ⟨g, 0, none⟩ (.int .i64 id)) (.cells #[.int .i64 id, .slice B n c, .int .i64 fr, .int .i64 til] 26)
    rw [show (w.setCell ⟨g, 0, none⟩ (.int .i64 id)).heap.size = w.heap.size by simp] at h
    exact cell_of_row _ _ _ _ _ _ h
  have hb1 : Below g w ((w.setCell ⟨g, 0, none⟩ (.int .i64 id)).alloc (.cells #[.int .i64 id, .slice B n c, .int .i64 fr, .int .i64 til] 26)) := ((Below.refl g w).setCell (p := ⟨g, 0, none⟩) (Nat.le_refl _) _).alloc (by simp; omega) _
  have hsz1 : g < ((w.setCell ⟨g, 0, none⟩ (.int .i64 id)).alloc (.cells #[.int .i64 id, .slice B n c, .int .i64 fr, .int .i64 til] 26)).heap.size := by simp; omega
  have hsz2 : w.heap.size < ((w.setCell ⟨g, 0, none⟩ (.int .i64 id)).alloc (.cells #[.int .i64 id, .slice B n c, .int .i64 fr, .int .i64 til] 26)).heap.size := by simp
  have hg1 : Boxed ((w.setCell ⟨g, 0, none⟩ (.int .i64 id)).alloc (.cells #[.int .i64 id, .slice B n c, .int .i64 fr, .int .i64 til] 26)) g 3 (.int .i64 id) := (hg.set _).alloc _
  cases z with
  | false =>
    go_enter Try.func95, Try.ntmps95
    go_wp2_with (go_at_call 76; (with_reducible refine (hR _).mono ?_); rintro e w' ⟨rfl, hb⟩; go_loud (have hx := (hb.cell (p := ⟨w.heap.size, 0, none⟩) hsz2).trans hx0; have hbx := hb1.trans (hb.mono (Nat.le_of_lt hsz1)); have hgx := hb.block g hsz1))
    go_ret
    exact ⟨rfl, hgx.trans hg1, hbx⟩
  | true =>
    by_cases hl : id ≤ last
    · have hd : decide (last < id) = false := by rw [decide_eq_false_iff_not]; omega
      rw [hd]
      go_enter Try.func95, Try.ntmps95
      go_wp2_with (go_at_call 76; (with_reducible refine (hR _).mono ?_); rintro e w' ⟨rfl, hb⟩; go_loud (have hx := (hb.cell (p := ⟨w.heap.size, 0, none⟩) hsz2).trans hx0; have hbx := hb1.trans (hb.mono (Nat.le_of_lt hsz1)); have hgx := hb.block g hsz1))
      go_ret
      exact ⟨rfl, hgx.trans hg1, hbx⟩
    · have hd : decide (last < id) = true := by rw [decide_eq_true_eq]; omega
      have hd2 : decide (id ≤ last) = false := by rw [decide_eq_false_iff_not]; omega
      rw [hd]
      go_enter Try.func95, Try.ntmps95
      go_wp2_with (go_at_call 76; (with_reducible refine (hR _).mono ?_); rintro e w' ⟨rfl, hb⟩; go_loud (have hx := (hb.cell (p := ⟨w.heap.size, 0, none⟩) hsz2).trans hx0; have hbx := hb1.trans (hb.mono (Nat.le_of_lt hsz1)); have hgx := hb.block g hsz1))
      go_ret
      exact ⟨rfl, hgx.trans hg1, hbx⟩

set_option maxHeartbeats 4000000 in
theorem ringIdx_any (A : Option Addr) (c : Nat) (l : List Ky) (last : Int) (g : Nat) (w : World) (hg : Boxed w g 3 (.int .i64 last)) (hr : ∀ w', Below g w w' → RdK w' A l) (hl : l.length ≤ 9223372036854775807) :
    Calls Try.prog 136 #[.slice A l.length c, .func (.func 95) #[] #[.pointer (some ⟨g, 0, none⟩)]] w fun e w' => (∃ z : Int, e = .returned (.int .i64 z) ∧ (0 ≤ z ↔ ringGo last l = false)) ∧ Below g w w' := by
  go_enter Try.func136, Try.ntmps136
  go_wp2
  go_loopw [5, 8] (fun _ i wr => ∃ (k : Nat) (la : Int), k ≤ l.length ∧ i = .int .i64 k ∧ Boxed wr g 3 (.int .i64 la) ∧ Hid (ringGo la (l.drop k) = ringGo last l) ∧ Below g w wr) (fun _ i _ => l.length - (intOf i).toNat)
  case atStart => exact ⟨0, last, Nat.zero_le _, rfl, hg, Lib.hid (by simp), Below.refl _ _⟩
  case round =>
    obtain ⟨k, la, hk, rfl, hb, hq, hbW⟩ := hrel
    by_cases hlt : k < l.length
    · have e := hq.out
      rw [List.drop_eq_getElem_cons hlt, ringGo_cons] at e
      rcases hr wr hbW with h0 | ⟨ad, rfl, _, hka⟩
      · simp [h0] at hlt
      obtain ⟨B, c2, c0, c1, c22, c3, hcl, hcc, hsr, hsb⟩ := hka k hlt
      generalize l[k] = ky at *
      have HE := Lib.hid e
      clear e hq hka
      have k0 : (0 : Int) ≤ (k : Int) := by omega
      have k1 : (k : Int) < (l.length : Int) := by omega
      obtain ⟨n2, hn2⟩ : ∃ n2, ky.sec.length = n2 := ⟨_, rfl⟩
      rw [hn2] at c1
      have hI := fun W hbb => is1_any B n2 c2 ky hn2 la g W hbb
      cases hz : (rightB ky && decide (la < ky.id)) with
      | true =>
        have e := HE.out
        rw [hz, Bool.true_and] at e
        have HX := Lib.hid e
        clear e HE
        rw [hz] at hI
        clear hz
        go_wp2_with (go_at_call 95; (with_reducible refine (hI _ hb).mono ?_); rintro e w' ⟨rfl, hb2, hbl2⟩)
        go_roundw
        case rel => exact ⟨k + 1, _, by omega, by go_num, hb2, HX, hbW.trans hbl2⟩
        case measure => simp [intOf]; omega
      | false =>
        have e := HE.out
        rw [hz, Bool.false_and] at e
        have HX := Lib.hid e
        clear e HE
        rw [hz] at hI
        clear hz
        go_wp2_with (go_at_call 95; (with_reducible refine (hI _ hb).mono ?_); rintro e w' ⟨rfl, hb2, hbl2⟩)
        go_ret
        exact ⟨⟨_, rfl, ⟨fun _ => HX.out.symm, fun _ => by omega⟩⟩, hbW.trans hbl2⟩
    · have e := hq.out
      rw [List.drop_eq_nil_of_le (by omega)] at e
      have HE := Lib.hid (show ringGo last l = true from e.symm)
      clear e hq
      go_wp2
      go_ret
      exact ⟨⟨_, rfl, ⟨fun h => by omega, fun h => by rw [HE.out] at h; cases h⟩⟩, hbW⟩

theorem ringHas_any (A : Option Addr) (c : Nat) (l : List Ky) (last : Int) (g : Nat) (w : World) (hg : Boxed w g 3 (.int .i64 last)) (hr : ∀ w', Below g w w' → RdK w' A l) (hl : l.length ≤ 9223372036854775807) :
    Calls Try.prog 94 #[.slice A l.length c, .func (.func 95) #[] #[.pointer (some ⟨g, 0, none⟩)]] w fun e w' => e = .returned (.bool (!(ringGo last l))) ∧ Below g w w' := by
  cases hz : ringGo last l with
  | true =>
    have HZ := Lib.hid hz
    go_enter Try.func94, Try.ntmps94
    go_wp2_with (go_at_call 136; (with_reducible refine (ringIdx_any A c l last g _ hg hr hl).mono ?_); rintro e w' ⟨⟨z, rfl, hz2⟩, hb⟩; have hneg : decide (0 ≤ z) = false := (by rw [decide_eq_false_iff_not]; intro h; have := hz2.1 h; rw [HZ.out] at this; cases this); clear hz2)
    go_ret
    exact ⟨by first | rfl | simp [hneg], hb⟩
  | false =>
    have HZ := Lib.hid hz
    go_enter Try.func94, Try.ntmps94
    go_wp2_with (go_at_call 136; (with_reducible refine (ringIdx_any A c l last g _ hg hr hl).mono ?_); rintro e w' ⟨⟨z, rfl, hz2⟩, hb⟩; have hneg : decide (0 ≤ z) = true := (by rw [decide_eq_true_eq]; exact hz2.2 HZ.out); clear hz2)
    go_ret
    exact ⟨by first | rfl | simp [hneg], hb⟩

theorem ringIs_any (A : Option Addr) (c : Nat) (l : List Ky) (w : World) (hr : RdK w A l) (hl : l.length ≤ 9223372036854775807) :
    Calls Try.prog 46 #[.slice A l.length c] w fun e w' => e = .returned (.bool (ringB l)) ∧ Below w.heap.size w w' := by
  have hmf : ∀ (fn : Fn) (first cap : Array Value) (w : World), (Instr.makeFunc fn first cap).run Try.prog w = .ok (.func fn first cap) w := fun _ _ _ _ => rfl
  have hG := Boxed.new w 3 (.int .i64 (-1))
  have hK : ∀ w', Below w.heap.size (w.alloc (.cells #[.int .i64 (-1)] 3)) w' → RdK w' A l := fun w' hb => hr.below ((bel1 w _).trans hb) (Nat.le_refl _)
  go_enter Try.func46, Try.ntmps46
  go_wp2_with (go_at_call 94; (with_reducible refine (ringHas_any A c l (-1) w.heap.size _ hG hK hl).mono ?_); rintro e w' ⟨rfl, hb⟩)
  go_ret
  exact ⟨by simp [ringB], (bel1 w _).trans hb⟩
end Go.Proofs.Ytiogogbkgekkdaa

namespace Go.Proofs.Ytiogogbkgekkdaa
open Go.RowKit
set_option linter.unusedVariables false
set_option maxRecDepth 100000
set_option linter.unusedSimpArgs false

/-- The four cells of a key that was laid: a number, a slice of bytes, two numbers. -/
theorem key_cells {H : Type} {enc : TypeId × Value → H} {W : World} {n : Nat} {cs : List Value} {x : DataW H × List MemPlace} (hl : cs.length = 4) (h : DataW.trod enc Try.prog W 0 (fun _ => true) true n 26 cs = some x) :
    ∃ (id fr til : Int) (B : Option Addr) (c : Nat) (sec : List Int), cs = [.int .i64 id, .slice B sec.length c, .int .i64 fr, .int .i64 til] ∧ sec.length ≤ c ∧ c ≤ 9223372036854775807 ∧ RdI W .u8 B sec ∧ ∀ b ∈ sec, 0 ≤ b ∧ b < 256 := by
  have L := open_leaves 6 26 (by kernel_rfl) n _ _ (by rw [hl]; kernel_rfl) h
  rw [show leavesOf Try.prog 6 26 = [3, 24, 3, 3] from by kernel_rfl] at L
  obtain ⟨c0, m0, rfl, g0, L⟩ := Lv_cons L
  obtain ⟨c1, m1, rfl, g1, L⟩ := Lv_cons L
  obtain ⟨c2, m2, rfl, g2, L⟩ := Lv_cons L
  obtain ⟨c3, m3, rfl, g3, L⟩ := Lv_cons L
  obtain rfl := Lv_nil L
  obtain ⟨id, rfl, _⟩ := leaf_int Try.underlying3 g0
  obtain ⟨fr, rfl, _⟩ := leaf_int Try.underlying3 g2
  obtain ⟨til, rfl, _⟩ := leaf_int Try.underlying3 g3
  obtain ⟨B, len, c, zs, rfl, hz⟩ := leaf_row Try.underlying24 Try.underlying5 (by kernel_rfl) g1
  obtain ⟨k1, k2⟩ := row_caps hz
  obtain ⟨sec, rfl, r1, r2, r3⟩ := rd_of_row hz
  exact ⟨id, fr, til, B, c, sec, rfl, k1, k2, r1, wfu8 r3⟩
theorem keys_upto {w : World} {a : Addr} : ∀ (n : Nat), (∀ j, j < n → ∃ k, KeyAt w (a.add (j * 4)) k) → ∃ l : List Ky, l.length = n ∧ ∀ j, (h : j < l.length) → KeyAt w (a.add (j * 4)) l[j]
  | 0, _ => ⟨[], rfl, fun j h => by simp at h⟩
  | n + 1, h => by
    obtain ⟨l, hl, hk⟩ := keys_upto n (fun j hj => h j (by omega))
    obtain ⟨k, hkn⟩ := h n (by omega)
    refine ⟨l ++ [k], by simp [hl], fun j hj => ?_⟩
    rw [List.length_append] at hj
    by_cases hjl : j < l.length
    · rw [List.getElem_append_left hjl]; exact hk j hjl
    · have : j = n := by simp at hj; omega
      subst this
      rw [List.getElem_append_right (by omega)]
      simpa [hl] using hkn
theorem keys_open {H : Type} {enc : TypeId × Value → H} {W : World} {n : Nat} {A : Option Addr} {len cap : Nat} {x : DataW H × List MemPlace} (h : DataW.trod enc Try.prog W 0 (fun _ => true) true n 28 [.slice A len cap] = some x) :
    ∃ ks : List Ky, len = ks.length ∧ RdK W A ks ∧ ks.length ≤ 9223372036854775807 := by
  rcases DataW.trod_slice Try.underlying28 h with ⟨hcs, _⟩ | ⟨a, len2, cap2, elems, rest, m, _, hcs, _, _, hle, hmx, hel, hat, _⟩
  · simp only [List.cons.injEq, Value.slice.injEq, and_true] at hcs
    obtain ⟨rfl, rfl, rfl⟩ := hcs
    exact ⟨[], rfl, .inl rfl, by simp⟩
  · simp only [List.cons.injEq, Value.slice.injEq, and_true] at hcs
    obtain ⟨rfl, rfl, rfl⟩ := hcs
    have hc4 : Try.prog.cellsOf 26 = 4 := by kernel_rfl
    rw [hc4] at hat
    have hk : ∀ j, j < len → ∃ k, KeyAt W (a.add (j * 4)) k := by
      intro j hj
      have e := hat j hj
      rw [List.getElem?_eq_getElem (by omega)] at e
      obtain ⟨cs, e1, e2⟩ := Option.bind_eq_some_iff.1 e
      obtain ⟨_, f2, f3⟩ := World.cells?_some e1
      obtain ⟨id, fr, til, B, c, sec, rfl, k1, k2, k3, k4⟩ := key_cells f2 e2
      have g0 := f3 0 (by omega)
      have g1 := f3 1 (by omega)
      have g2 := f3 2 (by omega)
      have g3 := f3 3 (by omega)
      rw [add_zero] at g0
      rw [show (a.add (j * 4)).add 1 = ⟨(a.add (j * 4)).block, (a.add (j * 4)).off + 1, none⟩ from add_succ _ 0] at g1
      rw [show (a.add (j * 4)).add 2 = ⟨(a.add (j * 4)).block, (a.add (j * 4)).off + 2, none⟩ from add_succ _ 1] at g2
      rw [show (a.add (j * 4)).add 3 = ⟨(a.add (j * 4)).block, (a.add (j * 4)).off + 3, none⟩ from add_succ _ 2] at g3
      exact ⟨⟨id, sec, fr, til⟩, B, c, g0, g1, g2, g3, k1, k2, k3, k4⟩
    obtain ⟨ks, hkl, hks⟩ := keys_upto len hk
    unfold maxLen at hmx
    refine ⟨ks, hkl.symm, ?_, by omega⟩
    by_cases h0 : len = 0
    · left; exact List.eq_nil_of_length_eq_zero (by omega)
    · obtain ⟨k, B, c, g0, _⟩ := hk 0 (by omega)
      have := World.block_lt_of_cell? W _ g0
      rw [add_block] at this
      exact .inr ⟨a, rfl, this, hks⟩
end Go.Proofs.Ytiogogbkgekkdaa

namespace Go.Proofs.Ytiogogbkgekkdaa
open Go.RowKit
set_option linter.unusedVariables false
set_option maxRecDepth 100000
set_option linter.unusedSimpArgs false

/-- The number and the error of a row of digits, n being the number so far. -/
def getGo : List Int → Int → Int × Int
  | [], n => (n, 0)
  | d :: l, n => if 9 < d then (0, 7) else getGo l (10 * n + d)
def getR (l : List Int) : Int × Int := if 18 < l.length then (0, 1) else getGo l 0

theorem getGo_cons (d : Int) (l : List Int) (n : Int) : getGo (d :: l) n = if 9 < d then (0, 7) else getGo l (10 * n + d) := rfl
theorem getR_long {l : List Int} (h : 18 < l.length) : getR l = (0, 1) := by unfold getR; rw [if_pos h]
theorem getR_short {l : List Int} (h : ¬ 18 < l.length) : getR l = getGo l 0 := by unfold getR; rw [if_neg h]

theorem ret2 {k k' : IntKind} {a b a' b' : Int} (h : a = a') (h' : b = b') : Ending.returned (.tuple #[.int k a, .int k' b]) = .returned (.tuple #[.int k a', .int k' b']) := by rw [h, h']
theorem pow10_le {k : Nat} (h : k ≤ 17) : (10 : Int) ^ k ≤ 100000000000000000 := by
  have : (10 : Nat) ^ k ≤ 10 ^ 17 := Nat.pow_le_pow_right (by omega) h
  have e : ((10 ^ k : Nat) : Int) = (10 : Int) ^ k := by simp
  rw [← e]; omega

set_option maxHeartbeats 2000000 in
theorem bcdGet_any (A : Option Addr) (c : Nat) (l : List Int) (w : World) (hr : RdI w .u8 A l) (hb : ∀ x ∈ l, 0 ≤ x ∧ x < 256) :
    Calls Try.prog 162 #[.slice A l.length c] w fun e w' => e = .returned (.tuple #[.int .i64 (getR l).1, .int .i64 (getR l).2]) ∧ w = w' := by
  by_cases hl : 18 < l.length
  · have E := Lib.hid (getR_long hl)
    go_enter Try.func162, Try.ntmps162
    go_wp2
    go_ret2
    exact ⟨by rw [E.out] <;> rfl, rfl⟩
  · have E := Lib.hid (getR_short hl)
    go_enter Try.func162, Try.ntmps162
    go_wp2
    go_loop [4, 12] (fun n i => ∃ (k : Nat) (m : Int), k ≤ l.length ∧ i = .int .i64 k ∧ n = .int .i64 m ∧ 0 ≤ m ∧ m < 10 ^ k ∧ Hid (getGo (l.drop k) m = getGo l 0)) (fun n i => l.length - (intOf i).toNat)
    case atStart => exact ⟨0, 0, Nat.zero_le _, rfl, rfl, by omega, by simp, Lib.hid (by simp)⟩
    case round =>
      obtain ⟨k, m, hk, rfl, rfl, h0, h1, hg⟩ := hrel
      by_cases hlt : k < l.length
      · obtain ⟨ad, rfl, hc⟩ := hr.at_ hlt
        have hd := hb (l.getD k 0) (getD_mem hlt)
        have hp := pow10_le (k := k) (by omega)
        have hm : m < 100000000000000000 := by omega
        have hs : (10 : Int) ^ (k + 1) = 10 * 10 ^ k := by rw [Int.pow_succ]; omega
        have hn : 10 * m + l.getD k 0 < 10 ^ (k + 1) ∨ 9 < l.getD k 0 := by omega
        have H1 := Lib.hid hn
        have e := hg.out
        rw [drop_cons hlt, getGo_cons] at e
        have He := Lib.hid e
        clear hs hn e hg hp h1
        generalize l.getD k 0 = d at *
        by_cases h9 : 9 < d
        · go_wp2
          go_ret2
          have e := He.out
          rw [if_pos h9] at e
          exact ⟨by rw [E.out, ← e] <;> rfl, rfl⟩
        · go_wp2
          go_round
          case rel => exact ⟨k + 1, 10 * m + d, by omega, by go_num, rfl, by omega, by have := H1.out; omega, Lib.hid (by have e := He.out; rw [if_neg h9] at e; exact e)⟩
          case measure => simp [intOf]; omega
      · have hkl : k = l.length := by omega
        have e := hg.out
        rw [List.drop_eq_nil_of_le (by omega)] at e
        have He := Lib.hid e
        clear e hg hkl
        go_wp2
        go_ret2
        exact ⟨by rw [E.out, ← He.out] <;> rfl, rfl⟩


end Go.Proofs.Ytiogogbkgekkdaa

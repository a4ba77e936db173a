/- Digits, split into numbers, the program's side: the test of the widths, and the iterator over the parts. Digits, split into numbers: what bcd.Split computes, for all digits and widths. No condition. -/
import Derived.Test.YtnbghgenaolfgaaGreatZ05
import Derived.Test.YtnbghgenaolfgaaGreatZ01
import Derived.Maps.AppendAt
namespace Go.Proofs.YtnbghgenaolfgaaGreat
open Go.RowKit Go.Shelf
set_option linter.unusedVariables false
set_option maxRecDepth 100000
set_option linter.unusedSimpArgs false

theorem badW_any (x : Int) (w : World) : Calls Tryz.prog 181 #[.int .i64 x] w fun e w' => e = .returned (.bool (!(wB x 0 18))) ∧ w = w' := by
  by_cases h : x < 0
  · have hd : decide (x < 0) = true := by simpa using h
    have e := wB_no (n := x) (a := 0) (b := 18) (.inl h)
    have E := Lib.hid e
    clear e
    go_enter Tryz.func181, Tryz.ntmps181
    go_wp2
    go_ret
    exact ⟨by rw [E.out] <;> rfl, rfl⟩
  · have hd : decide (x < 0) = false := by simpa using h
    have E := Lib.hid (show (!(wB x 0 18)) = decide (18 < x) by unfold wB; by_cases k : x ≤ 18 <;> simp [k, show 0 ≤ x by omega, show (18 < x) ↔ ¬ x ≤ 18 by omega])
    go_enter Tryz.func181, Tryz.ntmps181
    go_wp2
    go_ret
    exact ⟨by rw [E.out] <;> rfl, rfl⟩

def badGo : Int → List Int → Int
  | _, [] => -1
  | k, x :: l => if wB x 0 18 = false then k else badGo (k + 1) l
theorem badGo_cons (k x : Int) (l : List Int) : badGo k (x :: l) = if wB x 0 18 = false then k else badGo (k + 1) l := rfl
theorem bad_sum : ∀ (l : List Int) (k s : Int), 0 ≤ k → (0 ≤ badGo k l ↔ sumGo l s = none)
  | [], k, s, h => by simp [badGo, sumGo]
  | x :: l, k, s, h => by
    rw [badGo_cons, sumGo_cons]
    by_cases e : x < 0 ∨ 18 < x
    · rw [if_pos (wB_no e), if_pos e]; simp [h]
    · rw [if_neg (by rw [wB_mk (by omega) (by omega)]; simp), if_neg e]
      exact bad_sum l (k + 1) (s + x) (by omega)

set_option maxHeartbeats 2000000 in
theorem indexF_any (A : Option Addr) (c : Nat) (l : List Int) (w : World) (hr : RdI w .i64 A l) (hl : l.length ≤ 9223372036854775807) :
    Calls Tryz.prog 225 #[.slice A l.length c, .func (.func 181) #[] #[]] w fun e w' => e = .returned (.int .i64 (badGo 0 l)) ∧ w = w' := by
  go_enter Tryz.func225, Tryz.ntmps225
  go_wp2
  go_loop [8] (fun i => ∃ k : Nat, k ≤ l.length ∧ i = .int .i64 k ∧ Hid (badGo k (l.drop k) = badGo 0 l)) (fun i => l.length - (intOf i).toNat)
  case atStart => exact ⟨0, Nat.zero_le _, rfl, Lib.hid (by simp)⟩
  case round =>
    obtain ⟨k, hk, rfl, hg⟩ := hrel
    by_cases hlt : k < l.length
    · obtain ⟨ad, rfl, hc⟩ := hr.at_ hlt
      have e := hg.out
      rw [drop_cons hlt, badGo_cons] at e
      have He := Lib.hid e
      clear e hg
      generalize l.getD k 0 = x at *
      cases hx : wB x 0 18 with
      | false =>
        have e := He.out
        rw [if_pos hx] at e
        have He2 := Lib.hid e
        clear e He
        go_wp2_with (go_at_call 181; (with_reducible refine (badW_any _ _).mono ?_); rintro e w' ⟨rfl, rfl⟩)
        go_ret
        exact ⟨by rw [← He2.out] <;> rfl, rfl⟩
      | true =>
        have e := He.out
        rw [if_neg (by simp [hx])] at e
        have He2 := Lib.hid e
        clear e He
        go_wp2_with (go_at_call 181; (with_reducible refine (badW_any _ _).mono ?_); rintro e w' ⟨rfl, rfl⟩)
        go_round
        case rel => exact ⟨k + 1, by omega, by go_num, He2⟩
        case measure => simp [intOf]; omega
    · have e := hg.out
      rw [List.drop_eq_nil_of_le (by omega)] at e
      have He := Lib.hid e
      clear e hg
      go_wp2
      go_ret
      exact ⟨by rw [← He.out] <;> rfl, rfl⟩

def badB (l : List Int) : Bool := decide (0 ≤ badGo 0 l)
theorem badB_iff (l : List Int) : badB l = true ↔ sumGo l 0 = none := by unfold badB; rw [decide_eq_true_eq]; exact bad_sum l 0 0 (by omega)
theorem containsF_any (A : Option Addr) (c : Nat) (l : List Int) (w : World) (hr : RdI w .i64 A l) (hl : l.length ≤ 9223372036854775807) :
    Calls Tryz.prog 180 #[.slice A l.length c, .func (.func 181) #[] #[]] w fun e w' => e = .returned (.bool (badB l)) ∧ w = w' := by
  go_enter Tryz.func180, Tryz.ntmps180
  go_wp2_with (go_at_call 225; (with_reducible refine (indexF_any _ _ _ _ hr hl).mono ?_); rintro e w' ⟨rfl, rfl⟩)
  go_ret
  exact ⟨rfl, rfl⟩

theorem parts_any (A B : Option Addr) (n c m d : Nat) (w : World) : Calls Tryz.prog 182 #[.slice A n c, .slice B m d] w fun e w' => e = .returned (.func (.func 226) #[] #[.pointer (some ⟨w.heap.size + 1, 0, none⟩), .pointer (some ⟨w.heap.size, 0, none⟩)]) ∧ (w.alloc (.cells #[.slice A n c] 30)).alloc (.cells #[.slice B m d] 40) = w' := by
  have hmf : ∀ (fn : Fn) (first cap : Array Value) (w : World), (Instr.makeFunc fn first cap).run Tryz.prog w = .ok (.func fn first cap) w := fun _ _ _ _ => rfl
  go_enter Tryz.func182, Tryz.ntmps182
  go_wp2
  go_ret
  exact ⟨rfl, rfl⟩

/-- Where part k begins. -/
def pos (m : List Int) (k : Nat) : Nat := ((m.take k).map Int.toNat).sum
theorem pos_zero (m : List Int) : pos m 0 = 0 := rfl
theorem pos_succ (m : List Int) {k : Nat} (h : k < m.length) : pos m (k + 1) = pos m k + (m.getD k 0).toNat := by
  unfold pos
  rw [List.take_succ_eq_append_getElem h, List.map_append, List.sum_append]
  simp [h]
theorem pos_sum {m : List Int} {N : Int} (h : sumGo m 0 = some N) : ∀ k, k ≤ m.length → sumGo (m.drop k) (pos m k) = some N
  | 0, _ => by simpa [pos] using h
  | k + 1, hk => by
    have := pos_sum h k (by omega)
    rw [drop_cons (show k < m.length by omega), sumGo_cons] at this
    split at this
    · cases this
    · rw [pos_succ m (by omega)]
      rw [← this]; congr 1; omega
theorem pos_next {m : List Int} {N : Nat} (h : sumGo m 0 = some (N : Int)) {k : Nat} (hk : k < m.length) : ∃ y : Nat, m.getD k 0 = (y : Int) ∧ y ≤ 18 ∧ pos m k + y ≤ N ∧ pos m (k + 1) = pos m k + y := by
  have h1 := pos_sum h k (by omega)
  rw [drop_cons hk, sumGo_cons] at h1
  split at h1
  · cases h1
  · rename_i hx
    have := sumGo_le _ _ _ h1
    obtain ⟨y, hy⟩ := Int.eq_ofNat_of_zero_le (show 0 ≤ m.getD k 0 by omega)
    rw [hy] at this hx
    exact ⟨y, hy, by omega, by omega, by rw [pos_succ m hk, hy]; simp⟩

attribute [local go_sem] Oper.semAt_some

set_option maxHeartbeats 8000000 in
set_option maxRecDepth 100000 in
theorem iter_any (n L Bl Bw : Nat) (hn : 1 ≤ n) (A B : Option Addr) (c d : Nat) (l m : List Int) (w0 : World) (hr : RdI w0 .u8 A l) (hs : RdI w0 .i64 B m) (hlc : l.length ≤ c) (hc9 : c ≤ 9223372036854775807) (hm : m.length ≤ 9223372036854775807) (hsum : sumGo m 0 = some (l.length : Int))
    (J : Nat → World → Prop) (Jx : World → Prop) (hJb : ∀ k W, J k W → Below w0.heap.size w0 W ∧ Boxed W Bw 40 (.slice B m.length d)) (hJs : ∀ k W v, J k W → J k (W.setCell ⟨Bl, 0, none⟩ v))
    (hY : ∀ (k : Nat) (A' : Option Addr) (c' y : Nat) (W : World), J k W → Boxed W Bl 30 (.slice A' (l.length - pos m k) c') → RdI w0 .u8 A' (l.drop (pos m k)) → k < m.length → m.getD k 0 = (y : Int) → pos m k + y ≤ l.length →
      YieldAt Fence.wide (n - 1) Tryz.prog L #[.slice A' y y] W fun e W' => (e = .returned (.bool true) ∧ J (k + 1) W' ∧ Boxed W' Bl 30 (.slice A' (l.length - pos m k) c')) ∨ (e = .returned (.bool false) ∧ Jx W'))
    (W : World) (h0 : J 0 W) (hbl : Boxed W Bl 30 (.slice A l.length c)) :
    CallsIn Fence.wide n Tryz.prog 226 #[.func (.yield L) #[] #[], .pointer (some ⟨Bw, 0, none⟩), .pointer (some ⟨Bl, 0, none⟩)] W fun e W' => (∃ v, e = .returned v) ∧ (J m.length W' ∨ Jx W') := by
  refine callsIn_of_wp Tryz.func226 rfl trivial ?_ rfl
  simp only [Tryz.ntmps226, List.size_toArray, List.length_cons, List.length_nil, Nat.reduceAdd, Nat.reduceSub, Array.replicate_succ, Array.replicate_zero, List.push_toArray, List.append_toArray, List.nil_append, List.cons_append]
  have hcw := (hJb 0 W h0).2.cell
  gi_wp2
  gi_loopw [8] (fun i wr => ∃ (k : Nat) (A' : Option Addr) (c' : Nat), k ≤ m.length ∧ i = .int .i64 k ∧ J k wr ∧ Boxed wr Bl 30 (.slice A' (l.length - pos m k) c') ∧ l.length - pos m k ≤ c' ∧ c' ≤ 9223372036854775807 ∧ RdI w0 .u8 A' (l.drop (pos m k))) (fun i _ => m.length - (intOf i).toNat)
  case atStart => exact ⟨0, A, c, Nat.zero_le _, rfl, h0, by simpa [pos] using hbl, by omega, hc9, by simpa [pos] using hr⟩
  case round =>
    obtain ⟨k, A', c', hk, rfl, hJ, hB, hcl, hcc, hra⟩ := hrel
    by_cases hlt : k < m.length
    · obtain ⟨y, hy0, hy18, hyN, hps⟩ := pos_next hsum hlt
      obtain ⟨bd, rfl, hc⟩ := (hs.below (hJb k wr hJ).1).at_ hlt
      rw [hy0] at hc
      have hcw2 := (hJb k wr hJ).2.cell
      have hb1 := hB.cell
      obtain ⟨fn, tmps, assign, body, hy, hR⟩ := hY k A' c' y wr hJ hB hra hlt hy0 hyN
      have hcut := hra.cut (c := c') y (by rw [List.length_drop]; omega)
      rw [List.drop_drop, ← hps] at hcut
      have hcase : c' = y ∨ ¬ c' = y := by omega
      have HN := Lib.hid hps
      clear hps hy0
      rcases hcase with rfl | hct
      · rw [if_pos rfl] at hcut
        have HCUT := Lib.hid hcut
        gi_wp2
        refine hR.mono ?_
        rintro e W3 (⟨rfl, hJ3, hb3⟩ | ⟨rfl, hx3⟩)
        · have hJ4 := hJs _ _ (.slice A' 0 0) hJ3
          have hfz := hb3.frozen
          have hc3 := hb3.cell
          have hb4 := hb3.set (.slice A' 0 0)
          have HJ4 := Lib.hid hJ4
          have HB4 := Lib.hid hb4
          have HL := Lib.hid (show l.length - pos m (k + 1) = 0 by rw [HN.out]; omega)
          clear hJ4 hb4 hJ3 hcut
          gi_wp2
          refine ⟨⟨k + 1, A', 0, by omega, by go_num, HJ4.out, by rw [HL.out]; exact HB4.out, by rw [HL.out]; omega, by omega, HCUT.out⟩, by simp [intOf]; omega⟩
        · gi_wp2
          refine bodyPost_ret (results_none rfl _ _ _) rfl ?_
          exact ⟨⟨_, rfl⟩, .inr hx3⟩
      · rw [if_neg hct] at hcut
        have HCUT := Lib.hid hcut
        gi_wp2
        refine hR.mono ?_
        rintro e W3 (⟨rfl, hJ3, hb3⟩ | ⟨rfl, hx3⟩)
        · have hJ4 := hJs _ _ (.slice (A'.map fun x => x.add y) (l.length - pos m k - y) (c' - y)) hJ3
          have hfz := hb3.frozen
          have hc3 := hb3.cell
          have hb4 := hb3.set (.slice (A'.map fun x => x.add y) (l.length - pos m k - y) (c' - y))
          have HJ4 := Lib.hid hJ4
          have HB4 := Lib.hid hb4
          have HL := Lib.hid (show l.length - pos m (k + 1) = l.length - pos m k - y by rw [HN.out]; omega)
          clear hJ4 hb4 hJ3 hcut
          gi_wp2
          refine ⟨⟨k + 1, (A'.map fun x => x.add y), (c' - y), by omega, by go_num, HJ4.out, by rw [HL.out]; exact HB4.out, by rw [HL.out]; omega, by omega, HCUT.out⟩, by simp [intOf]; omega⟩
        · gi_wp2
          refine bodyPost_ret (results_none rfl _ _ _) rfl ?_
          exact ⟨⟨_, rfl⟩, .inr hx3⟩
    · obtain rfl : k = m.length := by omega
      have HJ := Lib.hid hJ
      clear hJ
      gi_wp2
      go_end0
      exact ⟨⟨_, rfl⟩, .inl HJ.out⟩
end Go.Proofs.YtnbghgenaolfgaaGreat

namespace Go.Proofs.YtnbghgenaolfgaaGreat
open Go.RowKit Go.Shelf
set_option linter.unusedVariables false
set_option maxRecDepth 100000
set_option linter.unusedSimpArgs false
attribute [local go_sem] Oper.semAt_some

theorem alloc2_boxes (w : World) (v v' : Value) (t t' : TypeId) : Boxed ((w.alloc (.cells #[v] t)).alloc (.cells #[v'] t')) w.heap.size t v ∧ Boxed ((w.alloc (.cells #[v] t)).alloc (.cells #[v'] t')) (w.heap.size + 1) t' v' := by
  refine ⟨(Boxed.new w t v).alloc _, ?_⟩
  have := Boxed.new (w.alloc (.cells #[v] t)) t' v'
  rwa [World.size_alloc] at this

theorem splitOut {W w : World} {tmps : Array Value} {l m : List Int} {v : Value} {e : Int} (hp : tmps.getD 4 undef = .pointer (some ⟨w.heap.size, 0, none⟩)) (hq : tmps.getD 5 undef = .pointer (some ⟨w.heap.size + 1, 0, none⟩))
    (h1 : Boxed W w.heap.size 40 v) (h2 : Boxed W (w.heap.size + 1) 31 (.int .i64 e)) {r : List Int} (hE : splitR l m = (r, e)) (hr : W.ownsRow w.heap.size 3 1 v r.length (r.map (.int .i64))) (hb : Below w.heap.size w W) :
    ∃ u, (results Tryz.f112 tmps).run Tryz.prog W = .ok u W ∧ ListRet (splitR l m).1 (some (splitR l m).2) w (.returned u) W :=
  ⟨_, results_cell2 rfl Tryz.underlying40 Tryz.underlying31 rfl rfl hp hq h1.cell h2.cell, ⟨v, by rw [hE], by rw [hE]; exact hr, hb⟩⟩

theorem boxed_across {W w1 : World} {n₀ B B' : Nat} {t' e : TypeId} {size : Nat} {v u : Value} {k : Nat} {xs : List Value} {tmp : Obj}
    (hx : Boxed W B' t' u) (hte : t' ≠ e) (hrow : W.ownsRow n₀ e size v k xs) (hgrow : (W.alloc tmp).grownBy w1 v.ownBlock) (hne : B' ≠ B) (v' : Value) : Boxed (w1.setCell ⟨B, 0, none⟩ v') B' t' u :=
  ((hx.alloc tmp).kept hgrow (hx.not_row hte hrow)).other hne v'

/-- What Split's own cells hold between two rounds. -/
def spI (w : World) (B : Option Addr) (d : Nat) (l m : List Int) (k : Nat) (W : World) : Prop :=
  (∃ (v : Value) (acc : List Int), acc.length = k ∧ Boxed W (w.heap.size + 1 + 1) 40 v ∧ W.ownsRow w.heap.size 3 1 v acc.length (acc.map (.int .i64)) ∧ Hid (splitGo (l.drop (pos m k)) (m.drop k) acc = splitGo l m [])) ∧
  Boxed W w.heap.size 40 (.slice none 0 0) ∧ Boxed W (w.heap.size + 1) 31 (.int .i64 0) ∧ Boxed W (w.heap.size + 1 + 1 + 1 + 1) 40 (.slice B m.length d) ∧ (∃ u, Boxed W (w.heap.size + 1 + 1 + 1) 30 u) ∧ Below w.heap.size w W
/-- Where a round has left. -/
def spX (w : World) (l m : List Int) (W : World) : Prop :=
  Boxed W w.heap.size 40 (.slice none 0 0) ∧ (∃ e : Int, Hid (([], e) = splitGo l m []) ∧ Boxed W (w.heap.size + 1) 31 (.int .i64 e)) ∧ Below w.heap.size w W

theorem spI_own (w : World) (B : Option Addr) (d : Nat) (l m : List Int) : OwnFrom (w.heap.size + 5) (spI w B d l m) := by
  rintro k X Y row ⟨⟨v, acc, ha, hv, ho, hg0⟩, h0, h1, h4, ⟨u, h3⟩, hb⟩ hg hr
  have hne : ∀ j, j < w.heap.size + 5 → some j ≠ row := fun j hj e => by have := (hr j e.symm).1; omega
  obtain ⟨v2, hv2, ho2, rfl⟩ := holdsRow_own w.heap.size (w.heap.size + 1 + 1) 40 3 1 (fun _ : Unit => acc.length) (fun _ => acc.map (.int .i64)) (fun _ u => u = v) () X Y row ⟨v, hv, ho, rfl⟩ hg (fun r e => (hr r e).2)
  exact ⟨⟨v2, acc, ha, hv2, ho2, hg0⟩, h0.kept hg (hne _ (by omega)), h1.kept hg (hne _ (by omega)), h4.kept hg (hne _ (by omega)), ⟨u, h3.kept hg (hne _ (by omega))⟩,
    hb.grown hg (hb.size) (fun j e => by have := (hr j e).1; omega)⟩
theorem spI_set {w : World} {B : Option Addr} {d : Nat} {l m : List Int} {k : Nat} {W : World} (v' : Value) (h : spI w B d l m k W) : spI w B d l m k (W.setCell ⟨w.heap.size + 1 + 1 + 1, 0, none⟩ v') := by
  obtain ⟨⟨v, acc, ha, hv, ho, hg0⟩, h0, h1, h4, ⟨u, h3⟩, hb⟩ := h
  exact ⟨⟨v, acc, ha, hv.other (by omega) _, ho.kept (grownBy_setCell' W _ v') (.inr (h3.not_row (by decide) ho).symm), hg0⟩, h0.other (by omega) _, h1.other (by omega) _, h4.other (by omega) _, ⟨_, h3.set _⟩, hb.setCell (p := ⟨w.heap.size + 1 + 1 + 1, 0, none⟩) (show w.heap.size ≤ w.heap.size + 1 + 1 + 1 by omega) v'⟩
theorem spX_own (w : World) (l m : List Int) : OwnFrom (w.heap.size + 5) (fun (_ : Unit) => spX w l m) := by
  rintro k X Y row ⟨h0, ⟨e, he, h1⟩, hb⟩ hg hr
  have hne : ∀ j, j < w.heap.size + 5 → some j ≠ row := fun j hj e => by have := (hr j e.symm).1; omega
  exact ⟨h0.kept hg (hne _ (by omega)), ⟨e, he, h1.kept hg (hne _ (by omega))⟩, hb.grown hg (hb.size) (fun j e => by have := (hr j e).1; omega)⟩

set_option maxHeartbeats 8000000 in
set_option maxRecDepth 100000 in
theorem bcdSplit_any (A B : Option Addr) (c d : Nat) (l m : List Int) (w : World) (hr : RdI w .u8 A l) (hs : RdI w .i64 B m) (hlc : l.length ≤ c) (hl : c ≤ 9223372036854775807) (hm : m.length ≤ 9223372036854775807) (hb : ∀ x ∈ l, 0 ≤ x ∧ x < 256) :
    Calls Tryz.prog 112 #[.slice A l.length c, .slice B m.length d] w (ListRet (splitR l m).1 (some (splitR l m).2) w) := by
  obtain ⟨i0, hi, hz0, hz1, hz2⟩ := info_parts infoI64
  refine (callsIn_wide (n := 4)).1 ?_
  refine callsIn_of_wp_marks Tryz.func112 rfl trivial ?_
  simp only [Tryz.ntmps112, List.size_toArray, List.length_cons, List.length_nil, Nat.reduceAdd, Nat.reduceSub, Array.replicate_succ, Array.replicate_zero, List.push_toArray, List.append_toArray, List.nil_append, List.cons_append]
  by_cases h20 : 20 < m.length
  · have E := Lib.hid (splitR_many (l := l) h20)
    have hd : decide ((20 : Int) < (m.length : Int)) = true := by rw [decide_eq_true_eq]; omega
    gi_wp2
    refine ⟨trivial, ?_⟩
    gi_wp2
    obtain ⟨x1, x2⟩ := alloc2_boxes w (.slice none 0 0) (.int .i64 1) 40 31
    exact splitOut rfl rfl x1 x2 E.out (World.ownsRow_nil _ _ _ _) ((by repeat (first | (with_reducible exact bR _) | (with_reducible refine bT ?_ (by assumption)) | (with_reducible apply bA) | (with_reducible apply bD) | (with_reducible apply bN) | (with_reducible refine bS ?_ (by first | omega | (simp; done) | (simp; omega))))))
  have hd : decide ((20 : Int) < (m.length : Int)) = false := by rw [decide_eq_false_iff_not]; omega
  have hsl := (hs.below ((by repeat (first | (with_reducible exact bR _) | (with_reducible refine bT ?_ (by assumption)) | (with_reducible apply bA) | (with_reducible apply bD) | (with_reducible apply bN) | (with_reducible refine bS ?_ (by first | omega | (simp; done) | (simp; omega))))) : Below w.heap.size w ((w.alloc (.cells #[.slice none 0 0] 40)).alloc (.cells #[.int .i64 0] 31))))
  cases hbd : badB m with
  | true =>
    have E := Lib.hid (splitR_bad (l := l) h20 ((badB_iff m).1 hbd))
    gi_wp2_with (refine ⟨trivial, ?_⟩; gi_at_call 180; (with_reducible refine (callsIn_wide.2 (containsF_any _ _ _ _ hsl hm)).mono ?_); rintro e w' ⟨rfl, rfl⟩)
    obtain ⟨x1, x2⟩ := alloc2_boxes w (.slice none 0 0) (.int .i64 1) 40 31
    exact splitOut rfl rfl x1 x2 E.out (World.ownsRow_nil _ _ _ _) ((by repeat (first | (with_reducible exact bR _) | (with_reducible refine bT ?_ (by assumption)) | (with_reducible apply bA) | (with_reducible apply bD) | (with_reducible apply bN) | (with_reducible refine bS ?_ (by first | omega | (simp; done) | (simp; omega))))))
  | false =>
    obtain ⟨s0, hs0⟩ : ∃ s0, sumGo m 0 = some s0 := by
      cases h : sumGo m 0 with
      | none => rw [(badB_iff m).2 h] at hbd; cases hbd
      | some s0 => exact ⟨s0, rfl⟩
    have HS0 := Lib.hid hs0
    clear hs0
    gi_wp2_with (refine ⟨trivial, ?_⟩; gi_at_call 180; (with_reducible refine (callsIn_wide.2 (containsF_any _ _ _ _ hsl hm)).mono ?_); rintro e w' ⟨rfl, rfl⟩)
    gi_loop [6, 22] (fun s i => ∃ (k : Nat) (t : Int), k ≤ m.length ∧ i = .int .i64 k ∧ s = .int .i64 t ∧ 0 ≤ t ∧ t ≤ 18 * k ∧ Hid (sumGo (m.drop k) t = some s0)) (fun _ i => m.length - (intOf i).toNat)
    case atStart => exact ⟨0, 0, Nat.zero_le _, rfl, rfl, by omega, by omega, Lib.hid (by simpa using HS0.out)⟩
    case round =>
      obtain ⟨k, t, hk, rfl, rfl, ht0, ht1, hg⟩ := hrel
      by_cases hlt : k < m.length
      · obtain ⟨bd, rfl, hc⟩ := hsl.at_ hlt
        have e := hg.out
        rw [drop_cons hlt, sumGo_cons] at e
        by_cases hx : m.getD k 0 < 0 ∨ 18 < m.getD k 0
        · rw [if_pos hx] at e; cases e
        rw [if_neg hx] at e
        have He := Lib.hid e
        clear e hg
        generalize m.getD k 0 = x at *
        gi_wp2
        go_round
        case rel => exact ⟨k + 1, t + x, by omega, by go_num, rfl, by omega, by omega, He⟩
        case measure => simp [intOf]; omega
      · have e := hg.out
        rw [List.drop_eq_nil_of_le (by omega)] at e
        obtain rfl : t = s0 := Option.some.inj e
        clear e hg
        by_cases hn : t = (l.length : Int)
        · subst hn
          have E := Lib.hid (splitR_go h20 HS0.out rfl)
          obtain ⟨W5, hW5⟩ : ∃ W5, ((((w.alloc (.cells #[.slice none 0 0] 40)).alloc (.cells #[.int .i64 0] 31)).alloc (.cells #[.slice none 0 0] 40)).alloc (.cells #[.slice A l.length c] 30)).alloc (.cells #[.slice B m.length d] 40) = W5 := ⟨_, rfl⟩
          have hz5 : W5.heap.size = w.heap.size + 5 := by rw [← hW5]; simp
          obtain ⟨b0, b1, b2, b3, b4⟩ : Boxed W5 w.heap.size 40 (.slice none 0 0) ∧ Boxed W5 (w.heap.size + 1) 31 (.int .i64 0) ∧ Boxed W5 (w.heap.size + 1 + 1) 40 (.slice none 0 0) ∧ Boxed W5 (w.heap.size + 1 + 1 + 1) 30 (.slice A l.length c) ∧ Boxed W5 (w.heap.size + 1 + 1 + 1 + 1) 40 (.slice B m.length d) := by
            rw [← hW5]
            obtain ⟨x1, x2⟩ := alloc2_boxes w (.slice none 0 0) (.int .i64 0) 40 31
            obtain ⟨y1, y2⟩ := alloc2_boxes ((w.alloc (.cells #[.slice none 0 0] 40)).alloc (.cells #[.int .i64 0] 31)) (.slice none 0 0) (.slice A l.length c) 40 30
            have z := Boxed.new ((((w.alloc (.cells #[.slice none 0 0] 40)).alloc (.cells #[.int .i64 0] 31)).alloc (.cells #[.slice none 0 0] 40)).alloc (.cells #[.slice A l.length c] 30)) 40 (.slice B m.length d)
            simp only [World.size_alloc] at y1 y2 z
            exact ⟨((x1.alloc _).alloc _).alloc _, ((x2.alloc _).alloc _).alloc _, (y1.alloc _), y2.alloc _, z⟩
          have hbl5 : Below w.heap.size w W5 := by rw [← hW5]; exact (by repeat (first | (with_reducible exact bR _) | (with_reducible refine bT ?_ (by assumption)) | (with_reducible apply bA) | (with_reducible apply bD) | (with_reducible apply bN) | (with_reducible refine bS ?_ (by first | omega | (simp; done) | (simp; omega)))))
          have hW5b : ((((w.alloc (.cells #[.slice none 0 0] 40)).alloc (.cells #[.int .i64 0] 31)).alloc (.cells #[.slice none 0 0] 40)).alloc (.cells #[.slice A l.length c] 30)).alloc (.cells #[.slice B m.length d] 40) = W5 := hW5
          gi_wp2_with (refine ⟨trivial, ?_⟩; gi_at_call 182; (with_reducible refine (callsIn_wide.2 (parts_any _ _ _ _ _ _ _)).mono ?_); rintro e w' ⟨rfl, rfl⟩)
          have hrI := hr.below hbl5
          have hsI := hs.below hbl5
          refine my_seq (gf := 226) rfl (enters_of Tryz.func226 (by kernel_rfl) rfl) m.length
            (fun W W' => ∀ u, Boxed W (w.heap.size + 1 + 1 + 1) 30 u → Boxed W' (w.heap.size + 1 + 1 + 1) 30 u) (fun h1 h2 u h => h2 u (h1 u h)) ?hKb
            (spI w B d l m) (spX w l m) (by rw [hz5]; exact spI_own w B d l m) (by rw [hz5]; exact spX_own w l m) ?h0 ?hseq ?hdone ?hstop
          case hKb =>
            intro W L o o' hL hl' ho u hu
            exact hu.kept (grownBy_putObj' W L o') (fun e => by cases e; rw [show W.heap[_]? = _ from hu] at hl'; cases hl'; cases ho)
          case h0 =>
            exact ⟨⟨_, [], rfl, b2, World.ownsRow_nil _ _ _ _, Lib.hid (by simp [pos])⟩, b0, b1, b4, ⟨_, b3⟩, hbl5⟩
          case hseq =>
            intro L J Jx W1 hJI hJset hround hJ0 hb1
            refine iter_any (4 - 1) L (w.heap.size + 1 + 1 + 1) (w.heap.size + 1 + 1 + 1 + 1) (by omega) A B c d l m w hr hs hlc hl hm HS0.out J Jx (fun k W h => ⟨(hJI k W h).2.2.2.2.2, (hJI k W h).2.2.2.1⟩) (fun k W v h => hJset k W _ v h (spI_set v (hJI k W h))) ?_ W1 hJ0 ?_
            · intro j A' c' y W hJ hB hra hjm hy hle
              refine (hround j #[.slice A' y y] W rfl hJ ⟨{ tmps := #[.slice A l.length c, .slice B m.length d, undef, undef, .pointer (some ⟨w.heap.size, 0, none⟩), .pointer (some ⟨w.heap.size + 1, 0, none⟩), .int .i64 (l.length : Int), undef, u8,
                  .pointer (some ⟨w.heap.size + 1 + 1, 0, none⟩), .slice A' y y, undef, undef, .slice B m.length d, .int .i64 (m.length : Int), .bool false, .bool false, .slice B m.length d, .bool false, .bool false, .slice B m.length d, .int .i64 (m.length : Int), .int .i64 (k : Int), .bool false,
                  u24, u25, u26, u27, u28, u29, .int .i64 (l.length : Int), .slice A l.length c, .int .i64 (l.length : Int), .bool false, .slice A l.length c, .slice B m.length d,
                  .func (.func 226) #[] #[.pointer (some ⟨w.heap.size + 1 + 1 + 1 + 1, 0, none⟩), .pointer (some ⟨w.heap.size + 1 + 1 + 1, 0, none⟩)],
                  .slice A' y y, undef, undef, undef, undef, undef, undef, undef, undef, undef, undef, undef, undef, undef], defers := [] }, ?_, ?_⟩).mono ?_
              · intro W K hK
                gi_wp2
                exact hK
              · rintro Wb ⟨⟨v, acc, ha, hv, ho, hg0⟩, h0, h1, h4, ⟨u, h3⟩, hbW⟩ hKp
                have hrb := (hra.below hbW).take y
                have hpl : ((l.drop (pos m j)).take y).length = y := by rw [List.length_take, List.length_drop]; omega
                have hpb : ∀ z ∈ (l.drop (pos m j)).take y, 0 ≤ z ∧ z < 256 := fun z hz => hb z (List.mem_of_mem_drop (List.mem_of_mem_take hz))
                have e := hg0.out
                have hps : pos m (j + 1) = pos m j + y := by rw [pos_succ m hjm, hy]; simp
                rw [drop_cons hjm, splitGo_cons, hy] at e
                simp only [Int.toNat_natCast] at e
                rw [List.drop_drop, ← hps] at e
                have HE := Lib.hid e
                have HL := Lib.hid hpl
                clear e hg0 hpl
                generalize (l.drop (pos m j)).take y = part at *
                have hc0 := h0.cell
                have hf0 := h0.frozen
                have hc1 := h1.cell
                have hf1 := h1.frozen
                have hcv := hv.cell
                have hfv := hv.frozen
                cases hE : ((getR part).2 != 0) with
                | true =>
                  have e := HE.out
                  rw [if_pos (by simpa using hE)] at e
                  have HE2 := Lib.hid e
                  clear e HE
                  gi_wp2_with (refine ⟨trivial, ?_⟩; gi_at_call 183; (with_reducible refine (CallsIn.inRound L (callsIn_wide.2 (bcdGet_len _ _ _ part _ HL.out hrb hpb))).mono ?_); rintro e w' ⟨rfl, rfl⟩)
                  refine ⟨((KeepsOthers.setCell _ _ _).trans (KeepsOthers.setCell _ _ _)).from _, ?_⟩
                  exact ⟨(h0.set _).other (by omega) _, ⟨_, HE2, (h1.other (by omega) _).set _⟩, (hbW.setCell (p := ⟨w.heap.size, 0, none⟩) (Nat.le_refl _) _).setCell (p := ⟨w.heap.size + 1, 0, none⟩) (show w.heap.size ≤ w.heap.size + 1 by omega) _⟩
                | false =>
                  have e := HE.out
                  rw [if_neg (by simpa using hE)] at e
                  have HE2 := Lib.hid e
                  clear e HE
                  have hzb := hbW.size
                  have hj20 : acc.length < 20 := by omega
                  have HA := Lib.hid ha
                  clear ha
                  gi_wp2_with (first | (refine ⟨trivial, ?_⟩; gi_at_call 183; (with_reducible refine (CallsIn.inRound L (callsIn_wide.2 (bcdGet_len _ _ _ part _ HL.out hrb hpb))).mono ?_); rintro e w' ⟨rfl, rfl⟩) | (gi_at_builtin; refine wpListIn_append_own _ rfl _ _ 40 rfl w.heap.size 3 i0 (.int .i64 0) 1 8 Tryz.underlying40 hi hz0 hz1 hz2 rfl (by decide) _ _ _ rfl (ho.alloc _) ⟨Wb.heap.size, 0, none⟩ 1 1 [.int .i64 (getR part).1] rfl rfl (cell_one_new _ _ _) (by simp [Value.oneCell']) (maxLen_ge (by omega)) (by omega) (by simp; omega) ?_; intro v' w1 hown' hgrow _; obtain ⟨g', cap', rfl⟩ := ownsRow_succ hown'; obtain ⟨hv1, hv2, hr2, hk2, hb2⟩ := hv.appended (by decide) ho hbW.size (show w.heap.size ≤ w.heap.size + 1 + 1 by omega) hown' hgrow; have hx1 := hv1.cell; have hx2 := hv1.frozen; have h0' := boxed_across h0 (by decide) ho hgrow (show w.heap.size ≠ w.heap.size + 1 + 1 by omega) (.slice (some ⟨g', 0, none⟩) (acc.length + 1) cap'); have h1' := boxed_across h1 (by decide) ho hgrow (show w.heap.size + 1 ≠ w.heap.size + 1 + 1 by omega) (.slice (some ⟨g', 0, none⟩) (acc.length + 1) cap'); have h4' := boxed_across h4 (by decide) ho hgrow (show w.heap.size + 1 + 1 + 1 + 1 ≠ w.heap.size + 1 + 1 by omega) (.slice (some ⟨g', 0, none⟩) (acc.length + 1) cap'); have h3' := boxed_across h3 (by decide) ho hgrow (show w.heap.size + 1 + 1 + 1 ≠ w.heap.size + 1 + 1 by omega) (.slice (some ⟨g', 0, none⟩) (acc.length + 1) cap')))
                  refine ⟨hk2.from _, fun u' hu' => boxed_across hu' (by decide) ho hgrow (show w.heap.size + 1 + 1 + 1 ≠ w.heap.size + 1 + 1 by omega) _, ⟨_, acc ++ [(getR part).1], by rw [List.length_append, HA.out]; rfl, hv2, by simpa using hr2, HE2⟩, h0', h1', h4', ⟨_, h3'⟩, hbW.trans hb2⟩
              · rintro e W' (⟨rfl, h1, h2⟩ | ⟨rfl, h1⟩)
                · exact .inl ⟨rfl, h1, h2 _ hB⟩
                · exact .inr ⟨rfl, h1⟩
            · exact (hb1.block _ (by rw [hz5]; omega)).trans b3
          case hdone =>
            rintro D W hD ⟨⟨v, acc, ha, hv, ho, hg0⟩, h0, h1, h4, ⟨u, h3⟩, hbW⟩ hK
            have e := hg0.out
            rw [List.drop_length] at e
            have HE := Lib.hid (E.out.trans e.symm)
            clear e hg0
            have hc0 := h0.cell
            have hf0 := h0.frozen
            have hc1 := h1.cell
            have hf1 := h1.frozen
            have hcv := hv.cell
            have hfv := hv.frozen
            obtain ⟨A2, n2, c2, rfl⟩ : ∃ A2 n2 c2, v = .slice A2 n2 c2 := by
              rcases ho.2 with ⟨rfl, _⟩ | ⟨g, cap, cur, rfl, _⟩
              · exact ⟨_, _, _, rfl⟩
              · exact ⟨_, _, _, rfl⟩
            gi_wp2
            refine ⟨by simp, .inl ⟨_, _, rfl, run_takeDeferred (((KeepsOthers.setCell _ _ _).trans (KeepsOthers.setCell _ _ _)).same D _ hK rfl), ?_⟩⟩
            have hb3 : Below w.heap.size w ((W.setCell ⟨w.heap.size, 0, none⟩ (.slice A2 n2 c2)).setCell ⟨w.heap.size + 1, 0, none⟩ (.int .i64 0)) := (hbW.setCell (p := ⟨w.heap.size, 0, none⟩) (Nat.le_refl _) _).setCell (p := ⟨w.heap.size + 1, 0, none⟩) (show w.heap.size ≤ w.heap.size + 1 by omega) _
            have hK3 := ((KeepsOthers.setCell W ⟨w.heap.size, 0, none⟩ (.slice A2 n2 c2)).trans (KeepsOthers.setCell _ ⟨w.heap.size + 1, 0, none⟩ (.int .i64 0))).same D _ hK rfl
            have ho2 := ho.kept (grownBy_setCell' W _ (.slice A2 n2 c2)) (.inr (h0.not_row (by decide) ho).symm)
            have ho3 := ho2.kept (grownBy_setCell' _ _ (.int .i64 0)) (.inr ((h1.other (by omega) (.slice A2 n2 c2)).not_row (by decide) ho2).symm)
            refine splitOut rfl rfl ?_ ?_ HE.out (ownsRow_putObj ho3 _ hK3 rfl) (hb3.trans (belowK_b (w := w) (Nat.le_refl _) _ D _ _ (by omega) hK3 rfl rfl))
            · exact ((h0.set _).other (by omega) _).kept (grownBy_putObj' _ D _) (fun e => by cases e; omega)
            · exact ((h1.other (by omega) _).set _).kept (grownBy_putObj' _ D _) (fun e => by cases e; omega)
          case hstop =>
            rintro D W hD ⟨h0, ⟨e, he, h1⟩, hbW⟩ hK
            gi_wp2
            refine ⟨by simp, .inl ⟨_, _, rfl, run_takeDeferred hK, ?_⟩⟩
            refine splitOut rfl rfl ?_ ?_ (E.out.trans he.out.symm) (World.ownsRow_nil _ _ _ _) (hbW.trans (belowK_b (w := w) (Nat.le_refl _) _ D _ _ (by omega) hK rfl rfl))
            · exact h0.kept (grownBy_putObj' _ D _) (fun e => by cases e; omega)
            · exact h1.kept (grownBy_putObj' _ D _) (fun e => by cases e; omega)
        · have E := Lib.hid (splitR_len (l := l) h20 HS0.out hn)
          have hd2 : (t != (l.length : Int)) = true := by simpa using hn
          gi_wp2
          obtain ⟨x1, x2⟩ := alloc2_boxes w (.slice none 0 0) (.int .i64 14) 40 31
          exact splitOut rfl rfl x1 x2 E.out (World.ownsRow_nil _ _ _ _) ((by repeat (first | (with_reducible exact bR _) | (with_reducible refine bT ?_ (by assumption)) | (with_reducible apply bA) | (with_reducible apply bD) | (with_reducible apply bN) | (with_reducible refine bS ?_ (by first | omega | (simp; done) | (simp; omega))))))
end Go.Proofs.YtnbghgenaolfgaaGreat

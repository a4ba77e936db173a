/- Digits, split into numbers: what bcd.Split computes, for all digits and widths. No condition. -/
import Derived.Test.YtachkhjbckapoaaT15
import Derived.Maps.AppendAt
namespace Go.Proofs.Ytachkhjbckapoaa
open Go.RowKit Go.Shelf
set_option linter.unusedVariables false
set_option maxRecDepth 100000
set_option linter.unusedSimpArgs false
attribute [local go_sem] Oper.semAt_some

theorem alloc2_boxes (w : World) (v v' : Value) (t t' : TypeId) : Boxed ((w.alloc (.cells #[v] t)).alloc (.cells #[v'] t')) w.heap.size t v ∧ Boxed ((w.alloc (.cells #[v] t)).alloc (.cells #[v'] t')) (w.heap.size + 1) t' v' := by
  refine ⟨(Boxed.new w t v).alloc _, ?_⟩
  have := Boxed.new (w.alloc (.cells #[v] t)) t' v'
  rwa [World.size_alloc] at this

theorem splitOut {W w : World} {tmps : Array Value} {l m : List Int} {v : Value} {e : Int} (hp : tmps.getD 4 undef = .pointer (some ⟨w.heap.size, 0, none⟩)) (hq : tmps.getD 5 undef = .pointer (some ⟨w.heap.size + 1, 0, none⟩))
    (h1 : Boxed W w.heap.size 97 v) (h2 : Boxed W (w.heap.size + 1) 31 (.int .i64 e)) {r : List Int} (hE : splitR l m = (r, e)) (hr : W.ownsRow w.heap.size 3 1 v r.length (r.map (.int .i64))) (hb : Below w.heap.size w W) :
    ∃ u, (results Try.f99 tmps).run Try.prog W = .ok u W ∧ ListRet (splitR l m).1 (some (splitR l m).2) w (.returned u) W :=
  ⟨_, results_cell2 rfl Try.underlying97 Try.underlying31 rfl rfl hp hq h1.cell h2.cell, ⟨v, by rw [hE], by rw [hE]; exact hr, hb⟩⟩

theorem boxed_across {W w1 : World} {n₀ B B' : Nat} {t' e : TypeId} {size : Nat} {v u : Value} {k : Nat} {xs : List Value} {tmp : Obj}
    (hx : Boxed W B' t' u) (hte : t' ≠ e) (hrow : W.ownsRow n₀ e size v k xs) (hgrow : (W.alloc tmp).grownBy w1 v.ownBlock) (hne : B' ≠ B) (v' : Value) : Boxed (w1.setCell ⟨B, 0, none⟩ v') B' t' u :=
  ((hx.alloc tmp).kept hgrow (hx.not_row hte hrow)).other hne v'

/-- What Split's own cells hold between two rounds. -/
def spI (w : World) (B : Option Addr) (d : Nat) (l m : List Int) (k : Nat) (W : World) : Prop :=
  (∃ (v : Value) (acc : List Int), acc.length = k ∧ Boxed W (w.heap.size + 1 + 1) 97 v ∧ W.ownsRow w.heap.size 3 1 v acc.length (acc.map (.int .i64)) ∧ Hid (splitGo (l.drop (pos m k)) (m.drop k) acc = splitGo l m [])) ∧
  Boxed W w.heap.size 97 (.slice none 0 0) ∧ Boxed W (w.heap.size + 1) 31 (.int .i64 0) ∧ Boxed W (w.heap.size + 1 + 1 + 1 + 1) 97 (.slice B m.length d) ∧ (∃ u, Boxed W (w.heap.size + 1 + 1 + 1) 30 u) ∧ Below w.heap.size w W
/-- Where a round has left. -/
def spX (w : World) (l m : List Int) (W : World) : Prop :=
  Boxed W w.heap.size 97 (.slice none 0 0) ∧ (∃ e : Int, Hid (([], e) = splitGo l m []) ∧ Boxed W (w.heap.size + 1) 31 (.int .i64 e)) ∧ Below w.heap.size w W

theorem spI_own (w : World) (B : Option Addr) (d : Nat) (l m : List Int) : OwnFrom (w.heap.size + 5) (spI w B d l m) := by
  rintro k X Y row ⟨⟨v, acc, ha, hv, ho, hg0⟩, h0, h1, h4, ⟨u, h3⟩, hb⟩ hg hr
  have hne : ∀ j, j < w.heap.size + 5 → some j ≠ row := fun j hj e => by have := (hr j e.symm).1; omega
  obtain ⟨v2, hv2, ho2, rfl⟩ := holdsRow_own w.heap.size (w.heap.size + 1 + 1) 97 3 1 (fun _ : Unit => acc.length) (fun _ => acc.map (.int .i64)) (fun _ u => u = v) () X Y row ⟨v, hv, ho, rfl⟩ hg (fun r e => (hr r e).2)
  exact ⟨⟨v2, acc, ha, hv2, ho2, hg0⟩, h0.kept hg (hne _ (by omega)), h1.kept hg (hne _ (by omega)), h4.kept hg (hne _ (by omega)), ⟨u, h3.kept hg (hne _ (by omega))⟩,
    hb.grown hg (hb.size) (fun j e => by have := (hr j e).1; omega)⟩
theorem spI_set {w : World} {B : Option Addr} {d : Nat} {l m : List Int} {k : Nat} {W : World} (v' : Value) (h : spI w B d l m k W) : spI w B d l m k (W.setCell ⟨w.heap.size + 1 + 1 + 1, 0, none⟩ v') := by
  obtain ⟨⟨v, acc, ha, hv, ho, hg0⟩, h0, h1, h4, ⟨u, h3⟩, hb⟩ := h
  exact ⟨⟨v, acc, ha, hv.other (by omega) _, ho.kept (grownBy_setCell' W _ v') (.inr (h3.not_row (by decide) ho).symm), hg0⟩, h0.other (by omega) _, h1.other (by omega) _, h4.other (by omega) _, ⟨_, h3.set _⟩, hb.setCell (p := ⟨w.heap.size + 1 + 1 + 1, 0, none⟩) (show w.heap.size ≤ w.heap.size + 1 + 1 + 1 by omega) v'⟩
theorem spX_own (w : World) (l m : List Int) : OwnFrom (w.heap.size + 5) (fun (_ : Unit) => spX w l m) := by
  rintro k X Y row ⟨h0, ⟨e, he, h1⟩, hb⟩ hg hr
  have hne : ∀ j, j < w.heap.size + 5 → some j ≠ row := fun j hj e => by have := (hr j e.symm).1; omega
  exact ⟨h0.kept hg (hne _ (by omega)), ⟨e, he, h1.kept hg (hne _ (by omega))⟩, hb.grown hg (hb.size) (fun j e => by have := (hr j e).1; omega)⟩

set_option maxHeartbeats 8000000 in
set_option maxRecDepth 100000 in
theorem bcdSplit_any (A B : Option Addr) (c d : Nat) (l m : List Int) (w : World) (hr : RdI w .u8 A l) (hs : RdI w .i64 B m) (hlc : l.length ≤ c) (hl : c ≤ 9223372036854775807) (hm : m.length ≤ 9223372036854775807) (hb : ∀ x ∈ l, 0 ≤ x ∧ x < 256) :
    Calls Try.prog 99 #[.slice A l.length c, .slice B m.length d] w (ListRet (splitR l m).1 (some (splitR l m).2) w) := by
  obtain ⟨i0, hi, hz0, hz1, hz2⟩ := info_parts infoI64
  refine (callsIn_wide (n := 4)).1 ?_
  refine callsIn_of_wp_marks Try.func99 rfl trivial ?_
  simp only [Try.ntmps99, List.size_toArray, List.length_cons, List.length_nil, Nat.reduceAdd, Nat.reduceSub, Array.replicate_succ, Array.replicate_zero, List.push_toArray, List.append_toArray, List.nil_append, List.cons_append]
  by_cases h20 : 20 < m.length
  · have E := Lib.hid (splitR_many (l := l) h20)
    have hd : decide ((20 : Int) < (m.length : Int)) = true := by rw [decide_eq_true_eq]; omega
    gi_wp2
    refine ⟨trivial, ?_⟩
    gi_wp2
    obtain ⟨x1, x2⟩ := alloc2_boxes w (.slice none 0 0) (.int .i64 1) 97 31
    exact splitOut rfl rfl x1 x2 E.out (World.ownsRow_nil _ _ _ _) ((by repeat (first | (with_reducible exact bR _) | (with_reducible refine bT ?_ (by assumption)) | (with_reducible apply bA) | (with_reducible apply bD) | (with_reducible apply bN) | (with_reducible refine bS ?_ (by first | omega | (simp; done) | (simp; omega))))))
  have hd : decide ((20 : Int) < (m.length : Int)) = false := by rw [decide_eq_false_iff_not]; omega
  have hsl := (hs.below ((by repeat (first | (with_reducible exact bR _) | (with_reducible refine bT ?_ (by assumption)) | (with_reducible apply bA) | (with_reducible apply bD) | (with_reducible apply bN) | (with_reducible refine bS ?_ (by first | omega | (simp; done) | (simp; omega))))) : Below w.heap.size w ((w.alloc (.cells #[.slice none 0 0] 97)).alloc (.cells #[.int .i64 0] 31))))
  cases hbd : badB m with
  | true =>
    have E := Lib.hid (splitR_bad (l := l) h20 ((badB_iff m).1 hbd))
    gi_wp2_with (refine ⟨trivial, ?_⟩; gi_at_call 135; (with_reducible refine (callsIn_wide.2 (containsF_any _ _ _ _ hsl hm)).mono ?_); rintro e w' ⟨rfl, rfl⟩)
    obtain ⟨x1, x2⟩ := alloc2_boxes w (.slice none 0 0) (.int .i64 1) 97 31
    exact splitOut rfl rfl x1 x2 E.out (World.ownsRow_nil _ _ _ _) ((by repeat (first | (with_reducible exact bR _) | (with_reducible refine bT ?_ (by assumption)) | (with_reducible apply bA) | (with_reducible apply bD) | (with_reducible apply bN) | (with_reducible refine bS ?_ (by first | omega | (simp; done) | (simp; omega))))))
  | false =>
    obtain ⟨s0, hs0⟩ : ∃ s0, sumGo m 0 = some s0 := by
      cases h : sumGo m 0 with
      | none => rw [(badB_iff m).2 h] at hbd; cases hbd
      | some s0 => exact ⟨s0, rfl⟩
    have HS0 := Lib.hid hs0
    clear hs0
    gi_wp2_with (refine ⟨trivial, ?_⟩; gi_at_call 135; (with_reducible refine (callsIn_wide.2 (containsF_any _ _ _ _ hsl hm)).mono ?_); rintro e w' ⟨rfl, rfl⟩)
    gi_loop [6, 22] (fun s i => ∃ (k : Nat) (t : Int), k ≤ m.length ∧ i = .int .i64 k ∧ s = .int .i64 t ∧ 0 ≤ t ∧ t ≤ 18 * k ∧ Hid (sumGo (m.drop k) t = some s0)) (fun _ i => m.length - (intOf i).toNat)
    case atStart => exact ⟨0, 0, Nat.zero_le _, rfl, rfl, by omega, by omega, Lib.hid (by simpa using HS0.out)⟩
    case round =>
      obtain ⟨k, t, hk, rfl, rfl, ht0, ht1, hg⟩ := hrel
      by_cases hlt : k < m.length
      · obtain ⟨bd, rfl, hc⟩ := hsl.at_ hlt
        have e := hg.out
        rw [drop_cons hlt, sumGo_cons] at e
        by_cases hx : m.getD k 0 < 0 ∨ 18 < m.getD k 0
        · rw [if_pos hx] at e; cases e
        rw [if_neg hx] at e
        have He := Lib.hid e
        clear e hg
        generalize m.getD k 0 = x at *
        gi_wp2
        go_round
        case rel => exact ⟨k + 1, t + x, by omega, by go_num, rfl, by omega, by omega, He⟩
        case measure => simp [intOf]; omega
      · have e := hg.out
        rw [List.drop_eq_nil_of_le (by omega)] at e
        obtain rfl : t = s0 := Option.some.inj e
        clear e hg
        by_cases hn : t = (l.length : Int)
        · subst hn
          have E := Lib.hid (splitR_go h20 HS0.out rfl)
          obtain ⟨W5, hW5⟩ : ∃ W5, ((((w.alloc (.cells #[.slice none 0 0] 97)).alloc (.cells #[.int .i64 0] 31)).alloc (.cells #[.slice none 0 0] 97)).alloc (.cells #[.slice A l.length c] 30)).alloc (.cells #[.slice B m.length d] 97) = W5 := ⟨_, rfl⟩
          have hz5 : W5.heap.size = w.heap.size + 5 := by rw [← hW5]; simp
          obtain ⟨b0, b1, b2, b3, b4⟩ : Boxed W5 w.heap.size 97 (.slice none 0 0) ∧ Boxed W5 (w.heap.size + 1) 31 (.int .i64 0) ∧ Boxed W5 (w.heap.size + 1 + 1) 97 (.slice none 0 0) ∧ Boxed W5 (w.heap.size + 1 + 1 + 1) 30 (.slice A l.length c) ∧ Boxed W5 (w.heap.size + 1 + 1 + 1 + 1) 97 (.slice B m.length d) := by
            rw [← hW5]
            obtain ⟨x1, x2⟩ := alloc2_boxes w (.slice none 0 0) (.int .i64 0) 97 31
            obtain ⟨y1, y2⟩ := alloc2_boxes ((w.alloc (.cells #[.slice none 0 0] 97)).alloc (.cells #[.int .i64 0] 31)) (.slice none 0 0) (.slice A l.length c) 97 30
            have z := Boxed.new ((((w.alloc (.cells #[.slice none 0 0] 97)).alloc (.cells #[.int .i64 0] 31)).alloc (.cells #[.slice none 0 0] 97)).alloc (.cells #[.slice A l.length c] 30)) 97 (.slice B m.length d)
            simp only [World.size_alloc] at y1 y2 z
            exact ⟨((x1.alloc _).alloc _).alloc _, ((x2.alloc _).alloc _).alloc _, (y1.alloc _), y2.alloc _, z⟩
          have hbl5 : Below w.heap.size w W5 := by rw [← hW5]; exact (by repeat (first | (with_reducible exact bR _) | (with_reducible refine bT ?_ (by assumption)) | (with_reducible apply bA) | (with_reducible apply bD) | (with_reducible apply bN) | (with_reducible refine bS ?_ (by first | omega | (simp; done) | (simp; omega)))))
          have hW5b : ((((w.alloc (.cells #[.slice none 0 0] 97)).alloc (.cells #[.int .i64 0] 31)).alloc (.cells #[.slice none 0 0] 97)).alloc (.cells #[.slice A l.length c] 30)).alloc (.cells #[.slice B m.length d] 97) = W5 := hW5
          gi_wp2_with (refine ⟨trivial, ?_⟩; gi_at_call 137; (with_reducible refine (callsIn_wide.2 (parts_any _ _ _ _ _ _ _)).mono ?_); rintro e w' ⟨rfl, rfl⟩)
          have hrI := hr.below hbl5
          have hsI := hs.below hbl5
          refine my_seq (gf := 157) rfl (enters_of Try.func157 (by kernel_rfl) rfl) m.length
            (fun W W' => ∀ u, Boxed W (w.heap.size + 1 + 1 + 1) 30 u → Boxed W' (w.heap.size + 1 + 1 + 1) 30 u) (fun h1 h2 u h => h2 u (h1 u h)) ?hKb
            (spI w B d l m) (spX w l m) (by rw [hz5]; exact spI_own w B d l m) (by rw [hz5]; exact spX_own w l m) ?h0 ?hseq ?hdone ?hstop
          case hKb =>
            intro W L o o' hL hl' ho u hu
            exact hu.kept (grownBy_putObj' W L o') (fun e => by cases e; rw [show W.heap[_]? = _ from hu] at hl'; cases hl'; cases ho)
          case h0 =>
            exact ⟨⟨_, [], rfl, b2, World.ownsRow_nil _ _ _ _, Lib.hid (by simp [pos])⟩, b0, b1, b4, ⟨_, b3⟩, hbl5⟩
          case hseq =>
            intro L J Jx W1 hJI hJset hround hJ0 hb1
            refine iter_any (4 - 1) L (w.heap.size + 1 + 1 + 1) (w.heap.size + 1 + 1 + 1 + 1) (by omega) A B c d l m w hr hs hlc hl hm HS0.out J Jx (fun k W h => ⟨(hJI k W h).2.2.2.2.2, (hJI k W h).2.2.2.1⟩) (fun k W v h => hJset k W _ v h (spI_set v (hJI k W h))) ?_ W1 hJ0 ?_
            · intro j A' c' y W hJ hB hra hjm hy hle
              refine (hround j #[.slice A' y y] W rfl hJ ⟨{ tmps := #[.slice A l.length c, .slice B m.length d, undef, undef, .pointer (some ⟨w.heap.size, 0, none⟩), .pointer (some ⟨w.heap.size + 1, 0, none⟩), .int .i64 (l.length : Int), undef, u8,
                  .pointer (some ⟨w.heap.size + 1 + 1, 0, none⟩), .slice A' y y, undef, undef, .slice B m.length d, .int .i64 (m.length : Int), .bool false, .bool false, .slice B m.length d, .bool false, .bool false, .slice B m.length d, .int .i64 (m.length : Int), .int .i64 (k : Int), .bool false,
                  u24, u25, u26, u27, u28, u29, .int .i64 (l.length : Int), .slice A l.length c, .int .i64 (l.length : Int), .bool false, .slice A l.length c, .slice B m.length d,
                  .func (.func 157) #[] #[.pointer (some ⟨w.heap.size + 1 + 1 + 1 + 1, 0, none⟩), .pointer (some ⟨w.heap.size + 1 + 1 + 1, 0, none⟩)],
                  .slice A' y y, undef, undef, undef, undef, undef, undef, undef, undef, undef, undef, undef, undef, undef], defers := [] }, ?_, ?_⟩).mono ?_
              · intro W K hK
                gi_wp2
                exact hK
              · rintro Wb ⟨⟨v, acc, ha, hv, ho, hg0⟩, h0, h1, h4, ⟨u, h3⟩, hbW⟩ hKp
                have hrb := (hra.below hbW).take y
                have hpl : ((l.drop (pos m j)).take y).length = y := by rw [List.length_take, List.length_drop]; omega
                have hpb : ∀ z ∈ (l.drop (pos m j)).take y, 0 ≤ z ∧ z < 256 := fun z hz => hb z (List.mem_of_mem_drop (List.mem_of_mem_take hz))
                have e := hg0.out
                have hps : pos m (j + 1) = pos m j + y := by rw [pos_succ m hjm, hy]; simp
                rw [drop_cons hjm, splitGo_cons, hy] at e
                simp only [Int.toNat_natCast] at e
                rw [List.drop_drop, ← hps] at e
                have HE := Lib.hid e
                have HL := Lib.hid hpl
                clear e hg0 hpl
                generalize (l.drop (pos m j)).take y = part at *
                have hc0 := h0.cell
                have hf0 := h0.frozen
                have hc1 := h1.cell
                have hf1 := h1.frozen
                have hcv := hv.cell
                have hfv := hv.frozen
                cases hE : ((getR part).2 != 0) with
                | true =>
                  have e := HE.out
                  rw [if_pos (by simpa using hE)] at e
                  have HE2 := Lib.hid e
                  clear e HE
                  gi_wp2_with (refine ⟨trivial, ?_⟩; gi_at_call 138; (with_reducible refine (CallsIn.inRound L (callsIn_wide.2 (bcdGet_len _ _ _ part _ HL.out hrb hpb))).mono ?_); rintro e w' ⟨rfl, rfl⟩)
                  refine ⟨((KeepsOthers.setCell _ _ _).trans (KeepsOthers.setCell _ _ _)).from _, ?_⟩
                  exact ⟨(h0.set _).other (by omega) _, ⟨_, HE2, (h1.other (by omega) _).set _⟩, (hbW.setCell (p := ⟨w.heap.size, 0, none⟩) (Nat.le_refl _) _).setCell (p := ⟨w.heap.size + 1, 0, none⟩) (show w.heap.size ≤ w.heap.size + 1 by omega) _⟩
                | false =>
                  have e := HE.out
                  rw [if_neg (by simpa using hE)] at e
                  have HE2 := Lib.hid e
                  clear e HE
                  have hzb := hbW.size
                  have hj20 : acc.length < 20 := by omega
                  have HA := Lib.hid ha
                  clear ha
                  gi_wp2_with (first | (refine ⟨trivial, ?_⟩; gi_at_call 138; (with_reducible refine (CallsIn.inRound L (callsIn_wide.2 (bcdGet_len _ _ _ part _ HL.out hrb hpb))).mono ?_); rintro e w' ⟨rfl, rfl⟩) | (gi_at_builtin; refine wpListIn_append_own _ rfl _ _ 97 rfl w.heap.size 3 i0 (.int .i64 0) 1 8 Try.underlying97 hi hz0 hz1 hz2 rfl (by decide) _ _ _ rfl (ho.alloc _) ⟨Wb.heap.size, 0, none⟩ 1 1 [.int .i64 (getR part).1] rfl rfl (cell_one_new _ _ _) (by simp [Value.oneCell']) (maxLen_ge (by omega)) (by omega) (by simp; omega) ?_; intro v' w1 hown' hgrow _; obtain ⟨g', cap', rfl⟩ := ownsRow_succ hown'; obtain ⟨hv1, hv2, hr2, hk2, hb2⟩ := hv.appended (by decide) ho hbW.size (show w.heap.size ≤ w.heap.size + 1 + 1 by omega) hown' hgrow; have hx1 := hv1.cell; have hx2 := hv1.frozen; have h0' := boxed_across h0 (by decide) ho hgrow (show w.heap.size ≠ w.heap.size + 1 + 1 by omega) (.slice (some ⟨g', 0, none⟩) (acc.length + 1) cap'); have h1' := boxed_across h1 (by decide) ho hgrow (show w.heap.size + 1 ≠ w.heap.size + 1 + 1 by omega) (.slice (some ⟨g', 0, none⟩) (acc.length + 1) cap'); have h4' := boxed_across h4 (by decide) ho hgrow (show w.heap.size + 1 + 1 + 1 + 1 ≠ w.heap.size + 1 + 1 by omega) (.slice (some ⟨g', 0, none⟩) (acc.length + 1) cap'); have h3' := boxed_across h3 (by decide) ho hgrow (show w.heap.size + 1 + 1 + 1 ≠ w.heap.size + 1 + 1 by omega) (.slice (some ⟨g', 0, none⟩) (acc.length + 1) cap')))
                  refine ⟨hk2.from _, fun u' hu' => boxed_across hu' (by decide) ho hgrow (show w.heap.size + 1 + 1 + 1 ≠ w.heap.size + 1 + 1 by omega) _, ⟨_, acc ++ [(getR part).1], by rw [List.length_append, HA.out]; rfl, hv2, by simpa using hr2, HE2⟩, h0', h1', h4', ⟨_, h3'⟩, hbW.trans hb2⟩
              · rintro e W' (⟨rfl, h1, h2⟩ | ⟨rfl, h1⟩)
                · exact .inl ⟨rfl, h1, h2 _ hB⟩
                · exact .inr ⟨rfl, h1⟩
            · exact (hb1.block _ (by rw [hz5]; omega)).trans b3
          case hdone =>
            rintro D W hD ⟨⟨v, acc, ha, hv, ho, hg0⟩, h0, h1, h4, ⟨u, h3⟩, hbW⟩ hK
            have e := hg0.out
            rw [List.drop_length] at e
            have HE := Lib.hid (E.out.trans e.symm)
            clear e hg0
            have hc0 := h0.cell
            have hf0 := h0.frozen
            have hc1 := h1.cell
            have hf1 := h1.frozen
            have hcv := hv.cell
            have hfv := hv.frozen
            obtain ⟨A2, n2, c2, rfl⟩ : ∃ A2 n2 c2, v = .slice A2 n2 c2 := by
              rcases ho.2 with ⟨rfl, _⟩ | ⟨g, cap, cur, rfl, _⟩
              · exact ⟨_, _, _, rfl⟩
              · exact ⟨_, _, _, rfl⟩
            gi_wp2
            refine ⟨by simp, .inl ⟨_, _, rfl, run_takeDeferred (((KeepsOthers.setCell _ _ _).trans (KeepsOthers.setCell _ _ _)).same D _ hK rfl), ?_⟩⟩
            have hb3 : Below w.heap.size w ((W.setCell ⟨w.heap.size, 0, none⟩ (.slice A2 n2 c2)).setCell ⟨w.heap.size + 1, 0, none⟩ (.int .i64 0)) := (hbW.setCell (p := ⟨w.heap.size, 0, none⟩) (Nat.le_refl _) _).setCell (p := ⟨w.heap.size + 1, 0, none⟩) (show w.heap.size ≤ w.heap.size + 1 by omega) _
            have hK3 := ((KeepsOthers.setCell W ⟨w.heap.size, 0, none⟩ (.slice A2 n2 c2)).trans (KeepsOthers.setCell _ ⟨w.heap.size + 1, 0, none⟩ (.int .i64 0))).same D _ hK rfl
            have ho2 := ho.kept (grownBy_setCell' W _ (.slice A2 n2 c2)) (.inr (h0.not_row (by decide) ho).symm)
            have ho3 := ho2.kept (grownBy_setCell' _ _ (.int .i64 0)) (.inr ((h1.other (by omega) (.slice A2 n2 c2)).not_row (by decide) ho2).symm)
            refine splitOut rfl rfl ?_ ?_ HE.out (ownsRow_putObj ho3 _ hK3 rfl) (hb3.trans (belowK_b (w := w) (Nat.le_refl _) _ D _ _ (by omega) hK3 rfl rfl))
            · exact ((h0.set _).other (by omega) _).kept (grownBy_putObj' _ D _) (fun e => by cases e; omega)
            · exact ((h1.other (by omega) _).set _).kept (grownBy_putObj' _ D _) (fun e => by cases e; omega)
          case hstop =>
            rintro D W hD ⟨h0, ⟨e, he, h1⟩, hbW⟩ hK
            gi_wp2
            refine ⟨by simp, .inl ⟨_, _, rfl, run_takeDeferred hK, ?_⟩⟩
            refine splitOut rfl rfl ?_ ?_ (E.out.trans he.out.symm) (World.ownsRow_nil _ _ _ _) (hbW.trans (belowK_b (w := w) (Nat.le_refl _) _ D _ _ (by omega) hK rfl rfl))
            · exact h0.kept (grownBy_putObj' _ D _) (fun e => by cases e; omega)
            · exact h1.kept (grownBy_putObj' _ D _) (fun e => by cases e; omega)
        · have E := Lib.hid (splitR_len (l := l) h20 HS0.out hn)
          have hd2 : (t != (l.length : Int)) = true := by simpa using hn
          gi_wp2
          obtain ⟨x1, x2⟩ := alloc2_boxes w (.slice none 0 0) (.int .i64 14) 97 31
          exact splitOut rfl rfl x1 x2 E.out (World.ownsRow_nil _ _ _ _) ((by repeat (first | (with_reducible exact bR _) | (with_reducible refine bT ?_ (by assumption)) | (with_reducible apply bA) | (with_reducible apply bD) | (with_reducible apply bN) | (with_reducible refine bS ?_ (by first | omega | (simp; done) | (simp; omega))))))
end Go.Proofs.Ytachkhjbckapoaa

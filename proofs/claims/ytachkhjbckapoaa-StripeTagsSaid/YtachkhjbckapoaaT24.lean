/- Layer 11: the reader's digits. No condition. -/
import Derived.Test.YtachkhjbckapoaaT23
import Derived.WalkMore
namespace Go.Proofs.Ytachkhjbckapoaa
open Go.RowKit
set_option linter.unusedVariables false
set_option maxRecDepth 100000
set_option linter.unusedSimpArgs false

theorem own_apart {w : World} {b b' e e' s s' n n' : Nat} {v v' : Value} {xs ys : List Value} (h : w.ownsRow b e s v n xs) (h' : w.ownsRow b' e' s' v' n' ys) (hne : e ≠ e') : v.ownBlock = none ∨ v.ownBlock ≠ v'.ownBlock := by
  rcases h.2 with ⟨rfl, _⟩ | ⟨g, cap, cur, rfl, _, hg, _⟩
  · exact .inl rfl
  · rcases h'.2 with ⟨rfl, _⟩ | ⟨g', cap', cur', rfl, _, hg', _⟩
    · right; simp [Value.ownBlock]
    · right
      intro e1
      obtain rfl : g = g' := by simpa [Value.ownBlock] using e1
      have := hg.symm.trans hg'
      simp at this
      exact hne this.2
theorem own_grown {w w' : World} {b e s n g : Nat} {v : Value} {xs : List Value} (h : w.ownsRow b e s v n xs) (hg : w.grownBy w' (some g)) (hb : g < b) : w'.ownsRow b e s v n xs :=
  h.kept hg (.inr fun e1 => by have := (h.lt g e1).1; omega)
theorem RdrAt.kept {w w' : World} {g U n at_ : Nat} {row : Option Nat} (h : RdrAt w g U n at_) (hg : w.grownBy w' row) (hne : some g ≠ row) : RdrAt w' g U n at_ := (hg.block g (Array.getElem?_eq_some_iff.1 h).1 hne).trans h
theorem RdB.kept {w w' : World} {U : Nat} {L : List Bool} {row : Option Nat} (h : RdB w (some ⟨U, 0, none⟩) L) (hg : w.grownBy w' row) (hne : some U ≠ row) : RdB w' (some ⟨U, 0, none⟩) L := by
  rcases h with rfl | ⟨ad, he, hlt, hc⟩
  · exact .inl rfl
  · obtain rfl := Option.some.inj he
    refine .inr ⟨_, rfl, Nat.lt_of_lt_of_le hlt hg.size, fun j hj => ?_⟩
    exact hg.cell (hc j hj) (by show some ((⟨U, 0, none⟩ : Addr).add j).block ≠ row; rw [add_block]; exact hne)
def DigRet (g U n : Nat) (L : List Bool) (w : World) (e : Ending) (w' : World) : Prop :=
  w.grownBy w' (some g) ∧ ((tkRd L).2 = 0 → ∃ v, e = .returned v ∧ w'.ownsRow w.heap.size 5 1 v (tkRd L).1.1.length ((tkRd L).1.1.map (.int .u8)) ∧ RdrAt w' g U n (n - (tkRd L).1.2)) ∧ ((tkRd L).2 ≠ 0 → e = .panicked [{ v := .iface 31 (.int .i64 (tkRd L).2), recovered := false }])
/-- How far the reader has come. -/
def rdAt (w : World) (g : Nat) : Nat := match w.cell? ⟨g, 1, none⟩ with | some (.int _ k) => k.toNat | _ => 0
theorem RdrAt.at_ {w : World} {g U n at_ : Nat} (h : RdrAt w g U n at_) : rdAt w g = at_ := by
  unfold rdAt; rw [h.cells.2]; simp
/-- One character is read. -/
theorem tkGo_bad {q : List Bool} {acc : List Int} (h : (vrd q).2 ≠ 0) : tkGo q acc = (([], 0), (vrd q).2) := by
  match q, h with
  | a :: b :: c :: d :: e :: t, h => rw [tkGo_cons, if_pos (show (chV (of5 a b c d e)).2 ≠ 0 from h)]; rfl
  | [], _ => simp [tkGo, vrd]
  | [_], _ => simp [tkGo, vrd]
  | [_, _], _ => simp [tkGo, vrd]
  | [_, _, _], _ => simp [tkGo, vrd]
  | [_, _, _, _], _ => simp [tkGo, vrd]
theorem tkEnd_bad {q : List Bool} {acc : List Int} (h : (vrd q).2 ≠ 0) : tkEnd acc q = (([], 0), (vrd q).2) := by
  match q, h with
  | a :: b :: c :: d :: e :: t, h => rw [tkEnd_cons, if_pos (show (chV (of5 a b c d e)).2 ≠ 0 from h)]; rfl
  | [], _ => simp [tkEnd, vrd]
  | [_], _ => simp [tkEnd, vrd]
  | [_, _], _ => simp [tkEnd, vrd]
  | [_, _, _], _ => simp [tkEnd, vrd]
  | [_, _, _, _], _ => simp [tkEnd, vrd]
theorem vrd_ok {q : List Bool} (h : (vrd q).2 = 0) : 5 ≤ q.length ∧ 0 ≤ (vrd q).1 ∧ (vrd q).1 ≤ 15 := by
  match q, h with
  | a :: b :: c :: d :: e :: t, h => exact ⟨by simp, (five_of a b c d e h).2⟩
  | [], h => simp [vrd] at h
  | [_], h => simp [vrd] at h
  | [_, _], h => simp [vrd] at h
  | [_, _, _], h => simp [vrd] at h
  | [_, _, _, _], h => simp [vrd] at h
theorem tkGo_step {q : List Bool} {acc : List Int} (h : (vrd q).2 = 0) : tkGo q acc = if (vrd q).1 = 15 then tkEnd acc (q.drop 5) else if 9 < (vrd q).1 then (([], 0), 7) else tkGo (q.drop 5) (acc ++ [(vrd q).1]) := by
  match q, h with
  | a :: b :: c :: d :: e :: t, h => rw [tkGo_cons, if_neg (show ¬ (chV (of5 a b c d e)).2 ≠ 0 from fun k => k h)]; rfl
  | [], h => simp [vrd] at h
  | [_], h => simp [vrd] at h
  | [_, _], h => simp [vrd] at h
  | [_, _, _], h => simp [vrd] at h
  | [_, _, _, _], h => simp [vrd] at h
theorem tkEnd_step {q : List Bool} {acc : List Int} (h : (vrd q).2 = 0) : tkEnd acc q = if (vrd q).1 ≠ xorL 0 (tvals acc) then (([], 0), 6) else if 77 < acc.length then (([], 0), 21) else ((acc, (q.drop 5).length), 0) := by
  match q, h with
  | a :: b :: c :: d :: e :: t, h => rw [tkEnd_cons, if_neg (show ¬ (chV (of5 a b c d e)).2 ≠ 0 from fun k => k h)]; rfl
  | [], h => simp [vrd] at h
  | [_], h => simp [vrd] at h
  | [_, _], h => simp [vrd] at h
  | [_, _, _], h => simp [vrd] at h
  | [_, _, _, _], h => simp [vrd] at h
set_option maxHeartbeats 4000000 in
theorem digits_start (g U n : Nat) (a b c d f : Bool) (t : List Bool) (w : World) (hr : RdrAt w g U n 0) (hL : RdB w (some ⟨U, 0, none⟩) (a :: b :: c :: d :: f :: t)) (hn : (a :: b :: c :: d :: f :: t).length = n) (hn9 : n ≤ 9000) (hx : of5 a b c d f ≠ 11) :
    Calls Try.prog 108 #[.pointer (some ⟨g, 0, none⟩)] w (DigRet g U n (a :: b :: c :: d :: f :: t) w) := by
  have E := Lib.hid (show tkRd (a :: b :: c :: d :: f :: t) = (([], 0), 4) by rw [tkRd_cons, if_pos hx])
  obtain ⟨c0, c1⟩ := hr.cells
  have hO := fun W => pof_any a b c d f W
  have hg0 := fun j (h : j < (a :: b :: c :: d :: f :: t).length) => hL.at_ h
  have q0 : w.cell? ⟨U, 0, none⟩ = some (.bool a) := by obtain ⟨ad, he, hc⟩ := hg0 0 (by simp); obtain rfl := Option.some.inj he; exact hc
  have q1 : w.cell? ⟨U, 1, none⟩ = some (.bool b) := by obtain ⟨ad, he, hc⟩ := hg0 1 (by simp); obtain rfl := Option.some.inj he; exact hc
  have q2 : w.cell? ⟨U, 2, none⟩ = some (.bool c) := by obtain ⟨ad, he, hc⟩ := hg0 2 (by simp); obtain rfl := Option.some.inj he; exact hc
  have q3 : w.cell? ⟨U, 3, none⟩ = some (.bool d) := by obtain ⟨ad, he, hc⟩ := hg0 3 (by simp); obtain rfl := Option.some.inj he; exact hc
  have q4 : w.cell? ⟨U, 4, none⟩ = some (.bool f) := by obtain ⟨ad, he, hc⟩ := hg0 4 (by simp); obtain rfl := Option.some.inj he; exact hc
  have hAA := fun (c : Nat) (w : World) => arrayAt5 ⟨U, 0, none⟩ 5 c w rfl
  have b2 : (5 : Int) ≤ (n : Int) := by simp at hn; omega
  have hd : (of5 a b c d f != 11) = true := by simpa using hx
  generalize of5 a b c d f = x at *
  clear hx hg0 hL hr hn
  go_enter Try.func108, Try.ntmps108
  go_wp2
  go_step3
  go_wp2_with (go_at_call 144; (with_reducible refine (hO _).mono ?_); rintro e w' ⟨rfl, hb⟩)
  exact ⟨rfl, grown_below hb _, fun h => by rw [E.out] at h; exact absurd h (by decide), fun _ => by rw [E.out]⟩
theorem grown_then {a b c : World} {row row' : Option Nat} (h : a.grownBy b row) (k : b.grownBy c row') (hr : ∀ j, row' = some j → a.heap.size ≤ j) : a.grownBy c row :=
  ⟨k.os.trans h.os, k.tape.trans h.tape, k.output.trans h.output, Nat.le_trans h.size k.size, fun i hi hne => (k.block i (Nat.lt_of_lt_of_le hi h.size) (fun e => by have := hr i e.symm; omega)).trans (h.block i hi hne)⟩
theorem panic_any (n : Int) (w : World) : (Instr.panic (.iface 31 (.int .i64 n))).run Try.prog w = .halt (.panic (.iface 31 (.int .i64 n))) w := rfl
theorem value_vr (g U n at_ : Nat) (L : List Bool) (hn : L.length = n) (hn9 : n ≤ 9000) (ha : at_ ≤ n) {v z : Int} (hp : vrd (L.drop at_) = (v, z)) (W : World) (h1 : RdrAt W g U n at_) (h2 : RdB W (some ⟨U, 0, none⟩) L) :
    Calls Try.prog 145 #[.pointer (some ⟨g, 0, none⟩)] W (VR g U n at_ v z W) := by
  have h := rvalue_any g U n at_ L W h1 h2 hn hn9 ha
  unfold ValRet at h
  rw [hp] at h
  exact h
set_option maxHeartbeats 8000000 in
theorem digits_go (g U n : Nat) (a b c d f : Bool) (t : List Bool) (w : World) (hr : RdrAt w g U n 0) (hL : RdB w (some ⟨U, 0, none⟩) (a :: b :: c :: d :: f :: t)) (hn : (a :: b :: c :: d :: f :: t).length = n) (hn9 : n ≤ 9000) (hU : U ≠ g) (hx : of5 a b c d f = 11) :
    Calls Try.prog 108 #[.pointer (some ⟨g, 0, none⟩)] w (DigRet g U n (a :: b :: c :: d :: f :: t) w) := by
  have E := Lib.hid (show tkRd (a :: b :: c :: d :: f :: t) = tkGo ((a :: b :: c :: d :: f :: t).drop 5) [] by rw [tkRd_cons, if_neg (by simpa using hx)]; rfl)
  obtain ⟨c0, c1⟩ := hr.cells
  have hO := fun W => pof_any a b c d f W
  have hg0 := fun j (h : j < (a :: b :: c :: d :: f :: t).length) => hL.at_ h
  have q0 : w.cell? ⟨U, 0, none⟩ = some (.bool a) := by obtain ⟨ad, he, hc⟩ := hg0 0 (by simp); obtain rfl := Option.some.inj he; exact hc
  have q1 : w.cell? ⟨U, 1, none⟩ = some (.bool b) := by obtain ⟨ad, he, hc⟩ := hg0 1 (by simp); obtain rfl := Option.some.inj he; exact hc
  have q2 : w.cell? ⟨U, 2, none⟩ = some (.bool c) := by obtain ⟨ad, he, hc⟩ := hg0 2 (by simp); obtain rfl := Option.some.inj he; exact hc
  have q3 : w.cell? ⟨U, 3, none⟩ = some (.bool d) := by obtain ⟨ad, he, hc⟩ := hg0 3 (by simp); obtain rfl := Option.some.inj he; exact hc
  have q4 : w.cell? ⟨U, 4, none⟩ = some (.bool f) := by obtain ⟨ad, he, hc⟩ := hg0 4 (by simp); obtain rfl := Option.some.inj he; exact hc
  have hAA := fun (c : Nat) (w : World) => arrayAt5 ⟨U, 0, none⟩ 5 c w rfl
  have b2 : (5 : Int) ≤ (n : Int) := by simp at hn; omega
  have hd : (of5 a b c d f != 11) = false := by simpa using hx
  generalize of5 a b c d f = x at *
  have hlt : g < w.heap.size := (Array.getElem?_eq_some_iff.1 hr).1
  generalize a :: b :: c :: d :: f :: t = L at *
  have HN := Lib.hid hn
  have hUl : U < w.heap.size := by
    obtain ⟨ad, he, hc⟩ := hL.at_ (j := 0) (by rw [hn]; omega)
    obtain rfl := Option.some.inj he
    exact World.block_lt_of_cell? w _ hc
  have hPn := panic_any
  obtain ⟨i0, hi, hz0, hz1, hz2⟩ := info_parts infoInt
  obtain ⟨i1, hj, hy0, hy1, hy2⟩ := info_parts infoB8
  have HR := Lib.hid hr
  clear hx hg0 hr hn
  go_enter Try.func108, Try.ntmps108
  go_wp2
  go_step3
  go_wp2_with (go_at_call 144; (with_reducible refine (hO _).mono ?_); rintro e w' ⟨rfl, hb⟩; have hR1 : RdrAt w' g U n 0 := (hb.block g hlt).trans HR.out; have hfr := row_free hR1 1; have HS := Lib.hid (heap_setCell_same w' g 1 _ _ (.int .i64 5) hR1); have hc9 := hR1.cells.2)
  go_step3
  go_wp2
  have hzz := hb.size
  have hR5 : RdrAt ((w'.setCell ⟨g, 1, none⟩ (.int .i64 5)).alloc (.cells #[.int .i64 11] 3)) g U n 5 := RdrAt.kept HS.out (World.grownBy_alloc _ _ none) (by simp)
  have hG5 : w.grownBy ((w'.setCell ⟨g, 1, none⟩ (.int .i64 5)).alloc (.cells #[.int .i64 11] 3)) (some g) := (grown_set (grown_below hb _)).trans (World.grownBy_alloc _ _ _)
  have hL5 := RdB.kept hL hG5 (by simpa using hU)
  have hv5 : ((w'.setCell ⟨g, 1, none⟩ (.int .i64 5)).alloc (.cells #[.int .i64 11] 3)).ownsRow w.heap.size 3 1 (.slice (some ⟨w'.heap.size, 0, none⟩) 1 1) (11 :: ([] : List Int)).length ((11 :: ([] : List Int)).map (.int .i64)) := own_base (by have h := own_lit1 (w'.setCell ⟨g, 1, none⟩ (.int .i64 5)) .i64 11 3; rw [(Below.setCell (Below.refl 0 w') (Nat.zero_le _) (.int .i64 5) : Below 0 w' (w'.setCell ⟨g, 1, none⟩ (.int .i64 5))) |> fun _ => World.size_setCell w' ⟨g, 1, none⟩ (.int .i64 5)] at h; exact h) hzz
  generalize hW0 : (w'.setCell ⟨g, 1, none⟩ (.int .i64 5)).alloc (.cells #[.int .i64 11] 3) = W0 at *
  have HG5 := Lib.hid hG5
  clear hW0 hG5 HS hR1 hfr hc9 c0 c1 q0 q1 q2 q3 q4 hAA hd hO HR hL hb hzz
  have hbn : n ≤ 9000 := hn9
  go_loopw [3, 4, 5] (fun vs out _ wr => ∃ (at_ : Nat) (acc : List Int), at_ ≤ n ∧ RdrAt wr g U n at_ ∧ RdB wr (some ⟨U, 0, none⟩) L ∧ wr.ownsRow w.heap.size 3 1 vs (11 :: acc).length ((11 :: acc).map (.int .i64)) ∧ wr.ownsRow w.heap.size 5 1 out acc.length (acc.map (.int .u8)) ∧ Hid (w.grownBy wr (some g)) ∧ Hid (tkGo (L.drop at_) acc = tkRd L) ∧ Hid (∀ x ∈ acc, 0 ≤ x ∧ x ≤ 9) ∧ acc.length ≤ at_) (fun _ _ _ wr => n - rdAt wr g)
  case atStart => exact ⟨5, [], by omega, hR5, hL5, hv5, World.ownsRow_nil _ _ _ _, HG5, Lib.hid E.out.symm, Lib.hid (by simp), by simp⟩
  case round =>
    obtain ⟨at_, acc, hat, hRr, hLr, hov, hob, HG, HK, HD, hal⟩ := hrel
    have hvo := fun h => vrd_ok (q := L.drop at_) h
    have HB1 := fun h => tkGo_bad (q := L.drop at_) (acc := acc) h
    have HB2 := fun h => tkGo_step (q := L.drop at_) (acc := acc) h
    obtain ⟨⟨v, z⟩, hp⟩ : ∃ p, vrd (L.drop at_) = p := ⟨_, rfl⟩
    rw [hp] at hvo HB1 HB2
    rw [List.drop_drop] at HB2
    have hV2 := value_vr g U n at_ L HN.out hn9 hat hp
    clear hp
    by_cases hz : z = 0
    · obtain ⟨ho5, hv0, hv15⟩ := hvo hz
      have hl5 : at_ + 5 ≤ n := by rw [List.length_drop, HN.out] at ho5; omega
      have hR2 := HB2 hz
      rw [HK.out] at hR2
      have HZ := Lib.hid hz
      clear hvo HB1 HB2 hz ho5
      simp only at hR2 hv0 hv15
      have hs9 := HG.out.size
      by_cases h15 : v = 15
      · subst h15
        rw [if_pos rfl] at hR2
        have HR2 := Lib.hid hR2
        clear hR2
        have htv : (11 :: acc) ++ [15] = tvals acc := rfl
        have htl : (tvals acc).length = acc.length + 2 := by unfold tvals; simp
        have hxs := tvals_15 HD.out
        have hv15' : ∀ v ∈ tvals acc, 0 ≤ v ∧ v ≤ 15 := by
          intro v hv
          unfold tvals at hv
          rcases List.mem_append.1 hv with hv | hv
          · rcases List.mem_cons.1 hv with rfl | hv
            · omega
            · have := HD.out v hv; omega
          · obtain rfl := List.mem_singleton.1 hv; omega
        have hSm := fun A c W h => psum_any A c (tvals acc) W h (by rw [htl]; omega) hv15'
        have hvo := fun h => vrd_ok (q := L.drop (at_ + 5)) h
        have HB1 := fun h => tkEnd_bad (q := L.drop (at_ + 5)) (acc := acc) h
        have HB2 := fun h => tkEnd_step (q := L.drop (at_ + 5)) (acc := acc) h
        obtain ⟨⟨v2, z2⟩, hp⟩ : ∃ p, vrd (L.drop (at_ + 5)) = p := ⟨_, rfl⟩
        rw [hp] at hvo HB1 HB2
        rw [List.drop_drop] at HB2
        have hV3 := value_vr g U n (at_ + 5) L HN.out hn9 hl5 hp
        clear hp htl hv15'
        obtain ⟨sx, hsx⟩ : ∃ sx, xorL 0 (tvals acc) = sx := ⟨_, rfl⟩
        rw [hsx] at hSm HB2
        simp only at hvo HB1 HB2
        clear hsx hxs
        generalize tvals acc = T at *
        by_cases hz2 : z2 = 0
        · obtain ⟨ho5, _, _⟩ := hvo hz2
          have hl6 : at_ + 10 ≤ n := by rw [List.length_drop, HN.out] at ho5; omega
          have hE := HB2 hz2
          rw [← HR2.out] at hE
          have HZ2 := Lib.hid hz2
          clear hz2 hvo HB1 HB2 ho5
          by_cases hx2 : v2 = sx
          · have d3 : (v2 != sx) = false := by simp [hx2]
            rw [if_neg (by simpa using hx2)] at hE
            clear hx2
            obtain ⟨Ao, co, rfl, _, _⟩ := own_slice hob
            by_cases h77 : 77 < acc.length
            · rw [if_pos h77] at hE
              have HE := Lib.hid hE
              clear hE
              have d4 : decide ((77 : Int) < (acc.length : Int)) = true := decide_eq_true (by omega)
              go_wp2_with (first | (go_at_call 145; (with_reducible refine (hV2 _ hRr hLr).mono ?_); rintro e w9 ⟨hg9, h9, h9'⟩; obtain ⟨rfl, hR9⟩ := h9 HZ.out; have hov9 := own_grown hov hg9 hlt; have hob9 := own_grown hob hg9 hlt; have hL9 := hLr.kept hg9 (by simpa using hU); have hs9 := hg9.size; have HG9 := Lib.hid (HG.out.trans hg9); clear h9 h9' hg9) | (at_builtin; refine wpL_app (k := .i64) rfl _ _ 97 rfl w.heap.size 3 i0 (.int .i64 0) 8 Try.underlying97 hi hz0 hz1 hz2 rfl _ (11 :: acc) rfl (hov9.alloc _) _ _ [15] rfl (RdI.lit1 _ _ _ _) ?_ ?_ ?_ ?_; (focus (simp only [List.length_append, List.length_cons, List.length_nil]; exact maxLen_ge (by omega))); (focus (simp only [List.length_append, List.length_cons, List.length_nil]; omega)); (focus (simp; omega)); intro v3 w3 ho3 hg3 _; rw [htv] at ho3; have hR3 := (hR9.kept (World.grownBy_alloc _ _ none) (by simp)).kept hg3 (fun e1 => by have := (hov9.lt g e1.symm).1; omega); have hL3 := (hL9.kept (World.grownBy_alloc _ _ none) (by simp)).kept hg3 (fun e1 => by have := (hov9.lt U e1.symm).1; omega); have hob3 := (hob9.alloc _).kept hg3 (own_apart hob9 hov9 (by decide)); have HG3 := Lib.hid (grown_then (HG9.out.trans (World.grownBy_alloc _ _ _)) hg3 (fun j e1 => (hov9.lt j e1).1)); have hs3 := hg3.size; have hs3' := HG3.out.size; obtain ⟨A2, c2, rfl, _, _⟩ := own_slice ho3; have hrd := RdI.of_own ho3; clear ho3 hg3 hov9 hob9 hR9 hL9) | (go_at_call 105; (with_reducible refine (hSm A2 c2 _ hrd).mono ?_); rintro e w4 ⟨rfl, hb4⟩; have hR4 := hR3.kept (grown_below hb4 none) (by simp); have hL4 := hL3.kept (grown_below hb4 none) (by simp); have hob4 := own_below hob3 hb4; have HG4 := Lib.hid (HG3.out.trans (grown_below hb4 _)); clear hrd hR3 hL3 hob3 hb4) | (go_at_call 145; (with_reducible refine (hV3 _ hR4 hL4).mono ?_); rintro e w11 ⟨hg11, h11, h11'⟩; obtain ⟨rfl, hR11⟩ := h11 HZ2.out; have hob11 := own_grown hob4 hg11 hlt; have HG11 := Lib.hid (HG4.out.trans hg11); clear h11 h11' hg11))
              go_wp2
              try rw [Exit.noGoto_panic]
              exact ⟨rfl, HG11.out, fun h => by rw [HE.out] at h; exact absurd h (by decide), fun _ => by rw [HE.out]⟩
            · rw [if_neg h77] at hE
              have HE := Lib.hid hE
              clear hE
              have d4 : decide ((77 : Int) < (acc.length : Int)) = false := decide_eq_false (by omega)
              go_wp2_with (first | (go_at_call 145; (with_reducible refine (hV2 _ hRr hLr).mono ?_); rintro e w9 ⟨hg9, h9, h9'⟩; obtain ⟨rfl, hR9⟩ := h9 HZ.out; have hov9 := own_grown hov hg9 hlt; have hob9 := own_grown hob hg9 hlt; have hL9 := hLr.kept hg9 (by simpa using hU); have hs9 := hg9.size; have HG9 := Lib.hid (HG.out.trans hg9); clear h9 h9' hg9) | (at_builtin; refine wpL_app (k := .i64) rfl _ _ 97 rfl w.heap.size 3 i0 (.int .i64 0) 8 Try.underlying97 hi hz0 hz1 hz2 rfl _ (11 :: acc) rfl (hov9.alloc _) _ _ [15] rfl (RdI.lit1 _ _ _ _) ?_ ?_ ?_ ?_; (focus (simp only [List.length_append, List.length_cons, List.length_nil]; exact maxLen_ge (by omega))); (focus (simp only [List.length_append, List.length_cons, List.length_nil]; omega)); (focus (simp; omega)); intro v3 w3 ho3 hg3 _; rw [htv] at ho3; have hR3 := (hR9.kept (World.grownBy_alloc _ _ none) (by simp)).kept hg3 (fun e1 => by have := (hov9.lt g e1.symm).1; omega); have hL3 := (hL9.kept (World.grownBy_alloc _ _ none) (by simp)).kept hg3 (fun e1 => by have := (hov9.lt U e1.symm).1; omega); have hob3 := (hob9.alloc _).kept hg3 (own_apart hob9 hov9 (by decide)); have HG3 := Lib.hid (grown_then (HG9.out.trans (World.grownBy_alloc _ _ _)) hg3 (fun j e1 => (hov9.lt j e1).1)); have hs3 := hg3.size; have hs3' := HG3.out.size; obtain ⟨A2, c2, rfl, _, _⟩ := own_slice ho3; have hrd := RdI.of_own ho3; clear ho3 hg3 hov9 hob9 hR9 hL9) | (go_at_call 105; (with_reducible refine (hSm A2 c2 _ hrd).mono ?_); rintro e w4 ⟨rfl, hb4⟩; have hR4 := hR3.kept (grown_below hb4 none) (by simp); have hL4 := hL3.kept (grown_below hb4 none) (by simp); have hob4 := own_below hob3 hb4; have HG4 := Lib.hid (HG3.out.trans (grown_below hb4 _)); clear hrd hR3 hL3 hob3 hb4) | (go_at_call 145; (with_reducible refine (hV3 _ hR4 hL4).mono ?_); rintro e w11 ⟨hg11, h11, h11'⟩; obtain ⟨rfl, hR11⟩ := h11 HZ2.out; have hob11 := own_grown hob4 hg11 hlt; have HG11 := Lib.hid (HG4.out.trans hg11); clear h11 h11' hg11))
              go_wp2
              try rw [Exit.noGoto_ret]
              go_ret
              refine ⟨HG11.out, fun _ => ⟨_, rfl, by rw [HE.out]; exact hob11, ?_⟩, fun h => by rw [HE.out] at h; exact absurd rfl h⟩
              rw [HE.out]
              show RdrAt _ g U n (n - (L.drop (at_ + 5 + 5)).length)
              rw [List.length_drop, HN.out, show n - (n - (at_ + 5 + 5)) = at_ + 5 + 5 by omega]
              exact hR11
          · have d3 : (v2 != sx) = true := by simpa using hx2
            rw [if_pos hx2] at hE
            have HE := Lib.hid hE
            clear hE hx2
            go_wp2_with (first | (go_at_call 145; (with_reducible refine (hV2 _ hRr hLr).mono ?_); rintro e w9 ⟨hg9, h9, h9'⟩; obtain ⟨rfl, hR9⟩ := h9 HZ.out; have hov9 := own_grown hov hg9 hlt; have hob9 := own_grown hob hg9 hlt; have hL9 := hLr.kept hg9 (by simpa using hU); have hs9 := hg9.size; have HG9 := Lib.hid (HG.out.trans hg9); clear h9 h9' hg9) | (at_builtin; refine wpL_app (k := .i64) rfl _ _ 97 rfl w.heap.size 3 i0 (.int .i64 0) 8 Try.underlying97 hi hz0 hz1 hz2 rfl _ (11 :: acc) rfl (hov9.alloc _) _ _ [15] rfl (RdI.lit1 _ _ _ _) ?_ ?_ ?_ ?_; (focus (simp only [List.length_append, List.length_cons, List.length_nil]; exact maxLen_ge (by omega))); (focus (simp only [List.length_append, List.length_cons, List.length_nil]; omega)); (focus (simp; omega)); intro v3 w3 ho3 hg3 _; rw [htv] at ho3; have hR3 := (hR9.kept (World.grownBy_alloc _ _ none) (by simp)).kept hg3 (fun e1 => by have := (hov9.lt g e1.symm).1; omega); have hL3 := (hL9.kept (World.grownBy_alloc _ _ none) (by simp)).kept hg3 (fun e1 => by have := (hov9.lt U e1.symm).1; omega); have hob3 := (hob9.alloc _).kept hg3 (own_apart hob9 hov9 (by decide)); have HG3 := Lib.hid (grown_then (HG9.out.trans (World.grownBy_alloc _ _ _)) hg3 (fun j e1 => (hov9.lt j e1).1)); have hs3 := hg3.size; have hs3' := HG3.out.size; obtain ⟨A2, c2, rfl, _, _⟩ := own_slice ho3; have hrd := RdI.of_own ho3; clear ho3 hg3 hov9 hob9 hR9 hL9) | (go_at_call 105; (with_reducible refine (hSm A2 c2 _ hrd).mono ?_); rintro e w4 ⟨rfl, hb4⟩; have hR4 := hR3.kept (grown_below hb4 none) (by simp); have hL4 := hL3.kept (grown_below hb4 none) (by simp); have hob4 := own_below hob3 hb4; have HG4 := Lib.hid (HG3.out.trans (grown_below hb4 _)); clear hrd hR3 hL3 hob3 hb4) | (go_at_call 145; (with_reducible refine (hV3 _ hR4 hL4).mono ?_); rintro e w11 ⟨hg11, h11, h11'⟩; obtain ⟨rfl, hR11⟩ := h11 HZ2.out; have hob11 := own_grown hob4 hg11 hlt; have HG11 := Lib.hid (HG4.out.trans hg11); clear h11 h11' hg11))
            go_wp2
            try rw [Exit.noGoto_panic]
            exact ⟨rfl, HG11.out, fun h => by rw [HE.out] at h; exact absurd h (by decide), fun _ => by rw [HE.out]⟩
        · have HZ2 := Lib.hid hz2
          have HE := Lib.hid (HR2.out.trans (HB1 hz2))
          clear hz2 hvo HB1 HB2
          go_wp2_with (first | (go_at_call 145; (with_reducible refine (hV2 _ hRr hLr).mono ?_); rintro e w9 ⟨hg9, h9, h9'⟩; obtain ⟨rfl, hR9⟩ := h9 HZ.out; have hov9 := own_grown hov hg9 hlt; have hob9 := own_grown hob hg9 hlt; have hL9 := hLr.kept hg9 (by simpa using hU); have hs9 := hg9.size; have HG9 := Lib.hid (HG.out.trans hg9); clear h9 h9' hg9) | (at_builtin; refine wpL_app (k := .i64) rfl _ _ 97 rfl w.heap.size 3 i0 (.int .i64 0) 8 Try.underlying97 hi hz0 hz1 hz2 rfl _ (11 :: acc) rfl (hov9.alloc _) _ _ [15] rfl (RdI.lit1 _ _ _ _) ?_ ?_ ?_ ?_; (focus (simp only [List.length_append, List.length_cons, List.length_nil]; exact maxLen_ge (by omega))); (focus (simp only [List.length_append, List.length_cons, List.length_nil]; omega)); (focus (simp; omega)); intro v3 w3 ho3 hg3 _; rw [htv] at ho3; have hR3 := (hR9.kept (World.grownBy_alloc _ _ none) (by simp)).kept hg3 (fun e1 => by have := (hov9.lt g e1.symm).1; omega); have hL3 := (hL9.kept (World.grownBy_alloc _ _ none) (by simp)).kept hg3 (fun e1 => by have := (hov9.lt U e1.symm).1; omega); have hob3 := (hob9.alloc _).kept hg3 (own_apart hob9 hov9 (by decide)); have HG3 := Lib.hid (grown_then (HG9.out.trans (World.grownBy_alloc _ _ _)) hg3 (fun j e1 => (hov9.lt j e1).1)); have hs3 := hg3.size; have hs3' := HG3.out.size; obtain ⟨A2, c2, rfl, _, _⟩ := own_slice ho3; have hrd := RdI.of_own ho3; clear ho3 hg3 hov9 hob9 hR9 hL9) | (go_at_call 105; (with_reducible refine (hSm A2 c2 _ hrd).mono ?_); rintro e w4 ⟨rfl, hb4⟩; have hR4 := hR3.kept (grown_below hb4 none) (by simp); have hL4 := hL3.kept (grown_below hb4 none) (by simp); have hob4 := own_below hob3 hb4; have HG4 := Lib.hid (HG3.out.trans (grown_below hb4 _)); clear hrd hR3 hL3 hob3 hb4) | (go_at_call 145; (with_reducible refine (hV3 _ hR4 hL4).mono ?_); rintro e w11 ⟨hg11, h11, h11'⟩; obtain rfl := h11' HZ2.out))
          go_wp2
          try rw [Exit.noGoto_panic]
          exact ⟨rfl, HG4.out.trans hg11, fun h => by rw [HE.out] at h; exact absurd h HZ2.out, fun _ => by rw [HE.out]⟩
      · rw [if_neg h15] at hR2
        have d2 : (v == 15) = false := by simpa using h15
        by_cases h9' : 9 < v
        · rw [if_pos h9'] at hR2
          have HE := Lib.hid hR2
          clear hR2 h15
          go_wp2_with (first | (go_at_call 145; (with_reducible refine (hV2 _ hRr hLr).mono ?_); rintro e w9 ⟨hg9, h9, h9'⟩; obtain ⟨rfl, hR9⟩ := h9 HZ.out; have hov9 := own_grown hov hg9 hlt; have hob9 := own_grown hob hg9 hlt; have hL9 := hLr.kept hg9 (by simpa using hU); have hs9 := hg9.size; have HG9 := Lib.hid (HG.out.trans hg9); clear h9 h9' hg9) | (at_builtin; refine wpL_app (k := .i64) rfl _ _ 97 rfl w.heap.size 3 i0 (.int .i64 0) 8 Try.underlying97 hi hz0 hz1 hz2 rfl _ (11 :: acc) rfl (hov9.alloc _) _ _ [v] rfl (RdI.lit1 _ _ _ _) ?_ ?_ ?_ ?_; (focus (simp only [List.length_append, List.length_cons, List.length_nil]; exact maxLen_ge (by omega))); (focus (simp only [List.length_append, List.length_cons, List.length_nil]; omega)); (focus (simp; omega)); intro v3 w3 ho3 hg3 _; have hR3 := (hR9.kept (World.grownBy_alloc _ _ none) (by simp)).kept hg3 (fun e1 => by have := (hov9.lt g e1.symm).1; omega); have hL3 := (hL9.kept (World.grownBy_alloc _ _ none) (by simp)).kept hg3 (fun e1 => by have := (hov9.lt U e1.symm).1; omega); have hob3 := (hob9.alloc _).kept hg3 (own_apart hob9 hov9 (by decide)); have HG3 := Lib.hid (grown_then (HG9.out.trans (World.grownBy_alloc _ _ _)) hg3 (fun j e1 => (hov9.lt j e1).1)); have hs3 := hg3.size; have hs3' := HG3.out.size; clear hg3 hov9 hob9 hR9 hL9))
          go_wp2
          try rw [Exit.noGoto_panic]
          exact ⟨rfl, HG3.out, fun h => by rw [HE.out] at h; exact absurd h (by decide), fun _ => by rw [HE.out]⟩
        · rw [if_neg h9'] at hR2
          have HE := Lib.hid hR2
          have hw8 : IntKind.u8.wrap v = v := by rw [IntKind.wrap_u8]; omega
          have HD2 := Lib.hid (show ∀ x ∈ acc ++ [v], 0 ≤ x ∧ x ≤ 9 by
            intro x hx
            rcases List.mem_append.1 hx with hx | hx
            · exact HD.out x hx
            · obtain rfl := List.mem_singleton.1 hx; omega)
          clear hR2 h15
          have hm := Lib.hid hRr.at_
          go_wp2_with (first | (go_at_call 145; (with_reducible refine (hV2 _ hRr hLr).mono ?_); rintro e w9 ⟨hg9, h9, h9'⟩; obtain ⟨rfl, hR9⟩ := h9 HZ.out; have hov9 := own_grown hov hg9 hlt; have hob9 := own_grown hob hg9 hlt; have hL9 := hLr.kept hg9 (by simpa using hU); have hs9 := hg9.size; have HG9 := Lib.hid (HG.out.trans hg9); clear h9 h9' hg9) | (at_builtin; refine wpL_app (k := .i64) rfl _ _ 97 rfl w.heap.size 3 i0 (.int .i64 0) 8 Try.underlying97 hi hz0 hz1 hz2 rfl _ (11 :: acc) rfl (hov9.alloc _) _ _ [v] rfl (RdI.lit1 _ _ _ _) ?_ ?_ ?_ ?_; (focus (simp only [List.length_append, List.length_cons, List.length_nil]; exact maxLen_ge (by omega))); (focus (simp only [List.length_append, List.length_cons, List.length_nil]; omega)); (focus (simp; omega)); intro v3 w3 ho3 hg3 _; have hR3 := (hR9.kept (World.grownBy_alloc _ _ none) (by simp)).kept hg3 (fun e1 => by have := (hov9.lt g e1.symm).1; omega); have hL3 := (hL9.kept (World.grownBy_alloc _ _ none) (by simp)).kept hg3 (fun e1 => by have := (hov9.lt U e1.symm).1; omega); have hob3 := (hob9.alloc _).kept hg3 (own_apart hob9 hov9 (by decide)); have HG3 := Lib.hid (grown_then (HG9.out.trans (World.grownBy_alloc _ _ _)) hg3 (fun j e1 => (hov9.lt j e1).1)); have hs3 := hg3.size; have hs3' := HG3.out.size; clear hg3 hov9 hob9 hR9 hL9) | (at_builtin; refine wpL_app (k := .u8) rfl _ _ 30 rfl w.heap.size 5 i1 (.int .u8 0) 1 Try.underlying30 hj hy0 hy1 hy2 rfl _ (acc) rfl (hob3.alloc _) _ _ [v] rfl (RdI.lit1 _ _ _ _) ?_ ?_ ?_ ?_; (focus (simp only [List.length_append, List.length_cons, List.length_nil]; exact maxLen_ge (by omega))); (focus (simp only [List.length_append, List.length_cons, List.length_nil]; omega)); (focus (simp; omega)); intro v5 w5 ho5 hg5 _; have hR5 := (hR3.kept (World.grownBy_alloc _ _ none) (by simp)).kept hg5 (fun e1 => by have := (hob3.lt g e1.symm).1; omega); have hL5 := (hL3.kept (World.grownBy_alloc _ _ none) (by simp)).kept hg5 (fun e1 => by have := (hob3.lt U e1.symm).1; omega); have hov5 := (ho3.alloc _).kept hg5 (own_apart ho3 hob3 (by decide)); have HG5 := Lib.hid (grown_then (HG3.out.trans (World.grownBy_alloc _ _ _)) hg5 (fun j e1 => (hob3.lt j e1).1)); clear hg5))
          go_roundw
          case rel => exact ⟨at_ + 5, acc ++ [v], by omega, hR5, hL5, hov5, ho5, HG5, Lib.hid HE.out.symm, HD2, by simp; omega⟩
          case measure => rw [hR5.at_, hm.out]; omega
    · have HZ := Lib.hid hz
      have HE := Lib.hid (HK.out.symm.trans (HB1 hz))
      clear hz hvo HB1 HB2
      go_wp2_with (go_at_call 145; (with_reducible refine (hV2 _ hRr hLr).mono ?_); rintro e w9 ⟨hg9, h9, h9'⟩; obtain rfl := h9' HZ.out)
      go_wp2
      try rw [Exit.noGoto_panic]
      exact ⟨rfl, HG.out.trans hg9, fun h => by rw [HE.out] at h; exact absurd h HZ.out, fun _ => by rw [HE.out]⟩
theorem digits_any (g U n : Nat) (L : List Bool) (w : World) (hr : RdrAt w g U n 0) (hL : RdB w (some ⟨U, 0, none⟩) L) (hn : L.length = n) (hn5 : 5 ≤ n) (hn9 : n ≤ 9000) (hU : U ≠ g) :
    Calls Try.prog 108 #[.pointer (some ⟨g, 0, none⟩)] w (DigRet g U n L w) := by
  match L, hL, hn with
  | a :: b :: c :: d :: f :: t, hL, hn =>
    by_cases hx : of5 a b c d f = 11
    · exact digits_go g U n a b c d f t w hr hL hn hn9 hU hx
    · exact digits_start g U n a b c d f t w hr hL hn hn9 hx
  | [], _, hn => exact absurd hn (by simp; omega)
  | [_], _, hn => exact absurd hn (by simp; omega)
  | [_, _], _, hn => exact absurd hn (by simp; omega)
  | [_, _, _], _, hn => exact absurd hn (by simp; omega)
  | [_, _, _, _], _, hn => exact absurd hn (by simp; omega)
end Go.Proofs.Ytachkhjbckapoaa

/- Digits, split into numbers: what bcd.Split's reference computes, for all digits and widths. No condition. -/
import Derived.Test.YthejnlelegcgfaaBcdJoin
import Derived.Test.YthejnlelegcgfaaNegoHas
namespace Go.Proofs.Ythejnlelegcgfaa
open Go.RowKit
set_option linter.unusedVariables false
set_option linter.unusedSimpArgs false

/-- The widths' sum; none: one is wrong. -/
def sumGo : List Int → Int → Option Int
  | [], s => some s
  | x :: l, s => if x < 0 ∨ 18 < x then none else sumGo l (s + x)
theorem sumGo_cons (x s : Int) (l : List Int) : sumGo (x :: l) s = if x < 0 ∨ 18 < x then none else sumGo l (s + x) := rfl
theorem sumGo_le : ∀ (l : List Int) (s r : Int), sumGo l s = some r → s ≤ r
  | [], s, r, h => by simp only [sumGo, Option.some.injEq] at h; omega
  | x :: l, s, r, h => by
    rw [sumGo_cons] at h
    split at h
    · cases h
    · have := sumGo_le l _ r h; omega
def splitGo : List Int → List Int → List Int → List Int × Int
  | _, [], acc => (acc, 0)
  | l, x :: ws, acc => if (getR (l.take x.toNat)).2 ≠ 0 then ([], (getR (l.take x.toNat)).2) else splitGo (l.drop x.toNat) ws (acc ++ [(getR (l.take x.toNat)).1])
theorem splitGo_cons (l : List Int) (x : Int) (ws acc : List Int) : splitGo l (x :: ws) acc = if (getR (l.take x.toNat)).2 ≠ 0 then ([], (getR (l.take x.toNat)).2) else splitGo (l.drop x.toNat) ws (acc ++ [(getR (l.take x.toNat)).1]) := rfl
def splitR (l ws : List Int) : List Int × Int :=
  if 20 < ws.length then ([], 1) else match sumGo ws 0 with | none => ([], 1) | some s => if s ≠ l.length then ([], 14) else splitGo l ws []
theorem splitR_many {l ws : List Int} (h : 20 < ws.length) : splitR l ws = ([], 1) := by unfold splitR; rw [if_pos h]
theorem splitR_bad {l ws : List Int} (h : ¬ 20 < ws.length) (k : sumGo ws 0 = none) : splitR l ws = ([], 1) := by unfold splitR; rw [if_neg h, k]
theorem splitR_len {l ws : List Int} {s : Int} (h : ¬ 20 < ws.length) (k : sumGo ws 0 = some s) (n : s ≠ l.length) : splitR l ws = ([], 14) := by unfold splitR; rw [if_neg h, k]; simp only [if_pos n]
theorem splitR_go {l ws : List Int} {s : Int} (h : ¬ 20 < ws.length) (k : sumGo ws 0 = some s) (n : s = l.length) : splitR l ws = splitGo l ws [] := by unfold splitR; rw [if_neg h, k]; simp only [n, ne_eq, not_true_eq_false, if_false]

theorem RdI.cut {w : World} {k : IntKind} {A : Option Addr} {l : List Int} {c : Nat} (h : RdI w k A l) (t : Nat) (hc : l.length ≤ c) : RdI w k (if c = t then A else A.map (·.add t)) (l.drop t) := by
  rcases h with rfl | ⟨ad, rfl, hlt, hcell⟩
  · left; simp
  · by_cases ht : l.length ≤ t
    · left; exact List.drop_eq_nil_of_le ht
    · right
      rw [if_neg (by omega)]
      refine ⟨ad.add t, rfl, by rw [add_block]; exact hlt, fun j hj => ?_⟩
      rw [List.length_drop] at hj
      rw [add_add, hcell (t + j) (by omega)]
      congr 2
      rw [List.getD_eq_getElem?_getD, List.getD_eq_getElem?_getD, List.getElem?_drop]
theorem RdI.take {w : World} {k : IntKind} {A : Option Addr} {l : List Int} (h : RdI w k A l) (t : Nat) : RdI w k A (l.take t) := by
  rcases h with rfl | ⟨ad, rfl, hlt, hcell⟩
  · left; simp
  · right
    refine ⟨ad, rfl, hlt, fun j hj => ?_⟩
    rw [List.length_take] at hj
    rw [hcell j (by omega)]
    congr 2
    rw [List.getD_eq_getElem?_getD, List.getD_eq_getElem?_getD, List.getElem?_take, if_pos (by omega)]

theorem RdI.at1 {w : World} {k : IntKind} {ad : Addr} {l : List Int} {j : Nat} {x : Int} (h : RdI w k (some ad) l) (hj : j < l.length) (hx : l.getD j 0 = x) : w.cell? (ad.add j) = some (.int k x) := by
  obtain ⟨ad', e, hc⟩ := h.at_ hj
  obtain rfl := Option.some.inj e
  rw [hc, hx]
theorem refGet_len (A : Option Addr) (c n : Nat) (l : List Int) (w : World) (hn : l.length = n) (hr : RdI w .u8 A l) (hb : ∀ x ∈ l, 0 ≤ x ∧ x < 256) :
    Calls Try.prog 28 #[.slice A n c] w fun e w' => e = .returned (.tuple #[.int .i64 (getR l).1, .int .i64 (getR l).2]) ∧ w = w' := by subst hn; exact refGet_any A c l w hr hb
theorem bcdGet_len (A : Option Addr) (c n : Nat) (l : List Int) (w : World) (hn : l.length = n) (hr : RdI w .u8 A l) (hb : ∀ x ∈ l, 0 ≤ x ∧ x < 256) :
    Calls Try.prog 27 #[.slice A n c] w fun e w' => e = .returned (.tuple #[.int .i64 (getR l).1, .int .i64 (getR l).2]) ∧ w = w' := by subst hn; exact bcdGet_any A c l w hr hb

set_option maxHeartbeats 8000000 in
set_option maxRecDepth 100000 in
theorem refSplit_any (A B : Option Addr) (c d : Nat) (l m : List Int) (w : World) (hr : RdI w .u8 A l) (hs : RdI w .i64 B m) (hlc : l.length ≤ c) (hl : c ≤ 9223372036854775807) (hm : m.length ≤ 9223372036854775807) (hb : ∀ x ∈ l, 0 ≤ x ∧ x < 256) :
    Calls Try.prog 34 #[.slice A l.length c, .slice B m.length d] w (ListRet (splitR l m).1 (some (splitR l m).2) w) := by
  by_cases h20 : 20 < m.length
  · have E := Lib.hid (splitR_many (l := l) h20)
    go_enter Try.func34, Try.ntmps34
    go_wp2
    go_ret2
    exact ⟨_, by rw [E.out] <;> rfl, by rw [E.out]; exact World.ownsRow_nil _ _ _ _, (by repeat (first | (with_reducible exact bR _) | (with_reducible refine bT ?_ (by assumption)) | (with_reducible apply bA) | (with_reducible apply bD) | (with_reducible apply bN) | (with_reducible refine bS ?_ (by first | omega | (simp; done) | (simp; omega)))))⟩
  obtain ⟨i0, hi, hz0, hz1, hz2⟩ := info_parts infoI64
  go_enter Try.func34, Try.ntmps34
  go_wp2
  go_loop [6, 7] (fun s i => ∃ (k : Nat) (t : Int), k ≤ m.length ∧ i = .int .i64 k ∧ s = .int .i64 t ∧ 0 ≤ t ∧ t ≤ 18 * k ∧ Hid (sumGo (m.drop k) t = sumGo m 0)) (fun _ i => m.length - (intOf i).toNat)
  case atStart => exact ⟨0, 0, Nat.zero_le _, rfl, rfl, by omega, by omega, Lib.hid (by simp)⟩
  case round =>
    obtain ⟨k, t, hk, rfl, rfl, ht0, ht1, hg⟩ := hrel
    by_cases hlt : k < m.length
    · obtain ⟨bd, rfl, hc⟩ := hs.at_ hlt
      have e := hg.out
      rw [drop_cons hlt, sumGo_cons] at e
      have He := Lib.hid e
      clear e hg
      generalize m.getD k 0 = x at *
      by_cases h1 : x < 0
      · have e := He.out
        rw [if_pos (.inl h1)] at e
        have E := Lib.hid (splitR_bad (l := l) h20 e.symm)
        clear e He
        go_wp2
        go_ret2
        exact ⟨_, by rw [E.out] <;> rfl, by rw [E.out]; exact World.ownsRow_nil _ _ _ _, (by repeat (first | (with_reducible exact bR _) | (with_reducible refine bT ?_ (by assumption)) | (with_reducible apply bA) | (with_reducible apply bD) | (with_reducible apply bN) | (with_reducible refine bS ?_ (by first | omega | (simp; done) | (simp; omega)))))⟩
      · by_cases h2 : 18 < x
        · have e := He.out
          rw [if_pos (.inr h2)] at e
          have E := Lib.hid (splitR_bad (l := l) h20 e.symm)
          clear e He
          go_wp2
          go_ret2
          exact ⟨_, by rw [E.out] <;> rfl, by rw [E.out]; exact World.ownsRow_nil _ _ _ _, (by repeat (first | (with_reducible exact bR _) | (with_reducible refine bT ?_ (by assumption)) | (with_reducible apply bA) | (with_reducible apply bD) | (with_reducible apply bN) | (with_reducible refine bS ?_ (by first | omega | (simp; done) | (simp; omega)))))⟩
        · have e := He.out
          rw [if_neg (by omega)] at e
          have He2 := Lib.hid e
          clear e He
          go_wp2
          go_round
          case rel => exact ⟨k + 1, t + x, by omega, by go_num, rfl, by omega, by omega, He2⟩
          case measure => simp [intOf]; omega
    · have e := hg.out
      rw [List.drop_eq_nil_of_le (by omega)] at e
      have hsum : sumGo m 0 = some t := by rw [← e]; rfl
      clear e hg
      by_cases hn : t = (l.length : Int)
      · have E := Lib.hid (splitR_go h20 hsum hn)
        have hd : (t != (l.length : Int)) = false := by simpa using hn
        have hsum2 : sumGo m 0 = some (l.length : Int) := by rw [hsum, hn]
        have HS := Lib.hid hsum2
        clear hsum hn hsum2
        go_wp2
        go_loopw [8, 9, 10] (fun v t i wr => ∃ (k t' : Nat) (acc : List Int), k ≤ m.length ∧ i = .int .i64 k ∧ t = .int .i64 t' ∧ t' ≤ l.length ∧ wr.ownsRow w.heap.size 3 1 v acc.length (acc.map (.int .i64)) ∧ acc.length = k ∧ Below w.heap.size w wr ∧ Hid (sumGo (m.drop k) t' = some (l.length : Int)) ∧ Hid (splitGo (l.drop t') (m.drop k) acc = splitGo l m [])) (fun _ _ i _ => m.length - (intOf i).toNat)
        case atStart => exact ⟨0, 0, [], Nat.zero_le _, rfl, rfl, Nat.zero_le _, own_lit0 _ _ _, rfl, (by repeat (first | (with_reducible exact bR _) | (with_reducible refine bT ?_ (by assumption)) | (with_reducible apply bA) | (with_reducible apply bD) | (with_reducible apply bN) | (with_reducible refine bS ?_ (by first | omega | (simp; done) | (simp; omega))))), by simpa using HS, Lib.hid (by simp)⟩
        case round =>
          obtain ⟨k2, t2, acc, hk2, rfl, rfl, ht2, ho, hacc, hbl, hsg, hgo⟩ := hrel
          by_cases hlt : k2 < m.length
          · obtain ⟨bd, rfl, hc⟩ := (hs.below hbl).at_ hlt
            have e := hsg.out
            rw [drop_cons hlt, sumGo_cons] at e
            have e2 := hgo.out
            rw [drop_cons hlt, splitGo_cons] at e2
            obtain ⟨x, hx0⟩ : ∃ x, m.getD k2 0 = x := ⟨_, rfl⟩
            rw [hx0] at e e2 hc
            have HX := Lib.hid hx0
            clear hx0
            by_cases hbad : x < 0 ∨ 18 < x
            · rw [if_pos hbad] at e; cases e
            rw [if_neg hbad] at e
            obtain ⟨y, rfl⟩ := Int.eq_ofNat_of_zero_le (show 0 ≤ x by omega)
            have hle := sumGo_le _ _ _ e
            simp only [Int.toNat_natCast] at e2
            have hyl : t2 + y ≤ l.length := by omega
            have hrc := ((hr.below hbl).cut t2 hlc).take y
            have hlen : ((l.drop t2).take y).length = y := by rw [List.length_take, List.length_drop]; omega
            have HLN := Lib.hid hlen
            have hpb : ∀ z ∈ (l.drop t2).take y, 0 ≤ z ∧ z < 256 := fun z hz => hb z (List.mem_of_mem_drop (List.mem_of_mem_take hz))
            have hE1 := Lib.hid e
            have hE2 := Lib.hid e2
            have hdd : (l.drop t2).drop y = l.drop (t2 + y) := by rw [List.drop_drop]
            have HDD := Lib.hid hdd
            clear e e2 hsg hgo hlen hdd
            generalize (l.drop t2).take y = part at *
            have hsz := hbl.size
            have HG := Lib.hid (own_ge ho)
            have hcase : t2 = c ∨ ¬ c = t2 := by omega
            cases hE : ((getR part).2 != 0) with
            | true =>
              have e := hE2.out
              rw [if_pos (by simpa using hE)] at e
              have E2 := Lib.hid e
              clear e hE2 ho hc
              have hc := RdI.at1 (hs.below hbl) hlt HX.out
              rcases hcase with rfl | hct
              all_goals
                first
                | rw [if_pos rfl] at hrc
                | rw [if_neg hct] at hrc
                go_wp2_with fail
                refine (refGet_len _ _ _ part _ HLN.out hrc hpb).mono ?_
                rintro e w5 ⟨rfl, rfl⟩
                go_wp2
                go_ret2
                exact ⟨_, by rw [E.out, ← E2.out] <;> rfl, by rw [E.out, ← E2.out]; exact World.ownsRow_nil _ _ _ _, hbl⟩
            | false =>
              have e := hE2.out
              rw [if_neg (by simpa using hE), HDD.out] at e
              have E2 := Lib.hid e
              clear e hE2
              rcases hcase with rfl | hct
              all_goals
                first
                | rw [if_pos rfl] at hrc
                | rw [if_neg hct] at hrc
                go_wp2_with fail
                refine (refGet_len _ _ _ part _ HLN.out hrc hpb).mono ?_
                rintro e w5 ⟨rfl, rfl⟩
                go_wp2_with (first | (at_builtin; refine wpL_app (k := .i64) rfl _ _ 36 rfl w.heap.size 3 i0 (.int .i64 0) 8 Try.underlying36 hi hz0 hz1 hz2 rfl _ acc rfl (ho.alloc _) _ _ [(getR part).1] rfl (RdI.lit1 _ _ _ _) ?_ ?_ ?_ ?_; (focus (simp only [List.length_append, List.length_cons, List.length_nil]; exact maxLen_ge (by omega))); (focus (simp only [List.length_append, List.length_cons, List.length_nil]; omega)); (focus (simp; omega)); intro v2 w2 ho3 hg2 _; have hbl2 := bG (bA hbl _) hg2 HG.out; have hc2 := RdI.at1 (hs.below hbl2) hlt HX.out; have HO3 := Lib.hid ho3; clear ho hg2 ho3))
                go_roundw
                case rel => exact ⟨k2 + 1, t2 + y, _, by omega, by go_num, by go_num, hyl, HO3.out, by rw [List.length_append]; simp [hacc], hbl2, Lib.hid (by have h := hE1.out; simpa using h), E2⟩
                case measure => simp [intOf]; omega
          · have e := hgo.out
            rw [List.drop_eq_nil_of_le (show m.length ≤ k2 by omega)] at e
            have e2 : (acc, (0 : Int)) = splitGo l m [] := by rw [← e]; rfl
            have E2 := Lib.hid e2
            have HO := Lib.hid ho
            clear e e2 hgo hsg ho
            go_wp2
            go_ret2
            exact ⟨_, by rw [E.out, ← E2.out] <;> rfl, by rw [E.out, ← E2.out]; exact HO.out, hbl⟩
      · have E := Lib.hid (splitR_len (l := l) h20 hsum hn)
        have hd : (t != (l.length : Int)) = true := by simpa using hn
        clear hsum
        go_wp2
        go_ret2
        exact ⟨_, by rw [E.out] <;> rfl, by rw [E.out]; exact World.ownsRow_nil _ _ _ _, (by repeat (first | (with_reducible exact bR _) | (with_reducible refine bT ?_ (by assumption)) | (with_reducible apply bA) | (with_reducible apply bD) | (with_reducible apply bN) | (with_reducible refine bS ?_ (by first | omega | (simp; done) | (simp; omega)))))⟩
end Go.Proofs.Ythejnlelegcgfaa

/- Layer 13, the plain laws: what is put is got again, what is got is put as it was, a kind's digits are as many, and the last six digits tell the journey and the key. -/
import Derived.Test.YthejnlelegcgfaaLayLaid
import Derived.Test.YthejnlelegcgfaaBcdPure
namespace Go.Proofs.Ythejnlelegcgfaa
open Go.RowKit
set_option linter.unusedVariables false
set_option linter.unusedSimpArgs false

theorem le15 {a0 a1 a2 a3 a4 a5 a6 a7 a8 a9 a10 a11 a12 a13 a14 m : Int} (h0 : a0 ≤ m) (h1 : a1 ≤ m) (h2 : a2 ≤ m) (h3 : a3 ≤ m) (h4 : a4 ≤ m) (h5 : a5 ≤ m) (h6 : a6 ≤ m) (h7 : a7 ≤ m) (h8 : a8 ≤ m) (h9 : a9 ≤ m) (h10 : a10 ≤ m) (h11 : a11 ≤ m) (h12 : a12 ≤ m) (h13 : a13 ≤ m) (h14 : a14 ≤ m) : ∀ x ∈ [a0, a1, a2, a3, a4, a5, a6, a7, a8, a9, a10, a11, a12, a13, a14], x ≤ m := by
  intro x hx
  simp only [List.mem_cons, List.not_mem_nil, or_false] at hx
  rcases hx with rfl | rfl | rfl | rfl | rfl | rfl | rfl | rfl | rfl | rfl | rfl | rfl | rfl | rfl | rfl <;> assumption

theorem layG_15 (l : List Int) : ∃ c0 c1 c2 c3 c4 c5 c6 c7 c8 c9 c10 c11 c12 c13 c14, (layG l).1 = [c0, c1, c2, c3, c4, c5, c6, c7, c8, c9, c10, c11, c12, c13, c14] := by
  cases l with
  | nil => exact ⟨_, _, _, _, _, _, _, _, _, _, _, _, _, _, _, rfl⟩
  | cons d l' =>
    rw [layG_cons]
    split
    · exact ⟨_, _, _, _, _, _, _, _, _, _, _, _, _, _, _, rfl⟩
    split
    · exact ⟨_, _, _, _, _, _, _, _, _, _, _, _, _, _, _, rfl⟩
    split
    · exact ⟨_, _, _, _, _, _, _, _, _, _, _, _, _, _, _, rfl⟩
    split
    · exact cellsOf_15 _ _
    · exact ⟨_, _, _, _, _, _, _, _, _, _, _, _, _, _, _, rfl⟩
theorem layG_fail {l : List Int} (h : (layG l).2 ≠ 0) : (layG l).1 = zeroC := by
  cases l with
  | nil => rfl
  | cons d l' =>
    rw [layG_cons] at h ⊢
    split
    · rfl
    split
    · rfl
    split
    · rfl
    split
    · rename_i h1 h2 h3 h4
      rw [if_neg h1, if_neg h2, if_neg h3, if_pos h4] at h
      exact absurd rfl h
    · rfl

theorem joinGo_ok : ∀ (vs ws acc : List Int), vs.length = ws.length → (joinGo vs ws acc).2 = 0 → joinGo vs ws acc = (acc ++ (List.zipWith putL vs ws).flatten, 0) ∧ ∀ i, i < ws.length → putE (vs.getD i 0) (ws.getD i 0) = 0
  | [], [], acc, _, _ => ⟨by simp [joinGo], fun i hi => by simp at hi⟩
  | [], _ :: _, _, h, _ => by simp at h
  | _ :: _, [], _, h, _ => by simp at h
  | v :: vs, x :: ws, acc, hl, h => by
    rw [joinGo_cons] at h ⊢
    by_cases hp : putE v x = 0
    · rw [if_neg (by simp [hp])] at h ⊢
      obtain ⟨e1, e2⟩ := joinGo_ok vs ws (acc ++ putL v x) (by simpa using hl) h
      refine ⟨by rw [e1]; simp, fun i hi => ?_⟩
      cases i with
      | zero => exact hp
      | succ i => exact e2 i (by simpa using hi)
    · rw [if_pos hp] at h; exact absurd h hp
theorem joinR_ok {vs ws l : List Int} (h : joinR vs ws = (l, 0)) : l = (List.zipWith putL vs ws).flatten ∧ vs.length = ws.length ∧ ∀ i, i < ws.length → putE (vs.getD i 0) (ws.getD i 0) = 0 := by
  by_cases ha : vs.length ≠ ws.length ∨ 20 < vs.length
  · rw [joinR_arg ha] at h; simp at h
  · rw [joinR_go (by omega) (by omega)] at h
    obtain ⟨e1, e2⟩ := joinGo_ok vs ws [] (by omega) (by rw [h])
    rw [h] at e1
    exact ⟨by simpa using congrArg Prod.fst e1, by omega, e2⟩
theorem joinR_sum {vs ws l : List Int} (h : joinR vs ws = (l, 0)) : sumGo ws 0 = some (l.length : Int) := by
  by_cases ha : vs.length ≠ ws.length ∨ 20 < vs.length
  · rw [joinR_arg ha] at h; simp at h
  · rw [joinR_go (by omega) (by omega)] at h
    obtain ⟨b, e1, e2, _⟩ := join_split vs ws [] [] 0 (by omega) (by rw [h])
    rw [h] at e1
    have : l = b := by simpa using congrArg Prod.fst e1
    rw [this]; simpa using e2

theorem splitR_nil {k : Int} (h1 : ¬ k < 1) (h4 : ¬ 4 < k) : (splitR [] (wsL k)).2 ≠ 0 := by
  obtain rfl | rfl | rfl | rfl : k = 1 ∨ k = 2 ∨ k = 3 ∨ k = 4 := by omega
  all_goals decide
theorem splitR_first {d : Int} {l ws : List Int} (h : (splitR (d :: l) (1 :: ws)).2 = 0) : ¬ 9 < d := by
  intro h9
  unfold splitR at h
  split at h
  · simp at h
  · split at h
    · simp at h
    · split at h
      · simp at h
      · have hg : getR [d] = (0, 7) := by rw [getR_short (by simp), getGo_cons, if_pos h9]
        rw [splitGo_cons] at h
        simp only [Int.toNat_one, List.take_succ_cons, List.take_zero, hg] at h
        simp at h

theorem cellsOf_layV {a0 a1 a2 a3 a4 a5 a6 a7 a8 a9 a10 a11 a12 a13 a14 : Int} (h1 : ¬ a1 < 1) (h4 : ¬ 4 < a1) (hu : usesB a1 a9 = true) (h6 : a6 = 0) (h14 : a14 = 0) : cellsOf a1 (layV a1 [a0, a1, a2, a3, a4, a5, a6, a7, a8, a9, a10, a11, a12, a13, a14]) = [a0, a1, a2, a3, a4, a5, a6, a7, a8, a9, a10, a11, a12, a13, a14] := by
  subst h6 h14
  obtain rfl | rfl | rfl | rfl : a1 = 1 ∨ a1 = 2 ∨ a1 = 3 ∨ a1 = 4 := by omega
  · obtain rfl : a9 = 1 := by simpa [usesB] using hu
    rfl
  · obtain rfl : a9 = 2 := by simpa [usesB] using hu
    rfl
  · obtain rfl : a9 = 0 := by simpa [usesB] using hu
    rfl
  · rfl

theorem putE_lt {v : Int} {k : Nat} (h : putE v k = 0) : 0 ≤ v ∧ v < 10 ^ k := by
  obtain ⟨n, e, _, h0, h1, _⟩ := put_ok h
  obtain rfl : k = n := by omega
  exact ⟨h0, h1⟩

theorem lay_put_fin {d a0 a1 a2 a3 a4 a5 a6 a7 a8 a9 a10 a11 a12 a13 a14 : Int} {t l : List Int} (h1 : ¬ d < 1) (h4 : ¬ 4 < d) (hc : cellsOf d (d :: t) = [a0, a1, a2, a3, a4, a5, a6, a7, a8, a9, a10, a11, a12, a13, a14]) (hvl : (d :: t).length = (wsL d).length) (hj : joinR (d :: t) (wsL d) = (l, 0))
    (hp : ∀ i, i < (wsL d).length → putE ((d :: t).getD i 0) ((wsL d).getD i 0) = 0) (hT : tkB a0 a1 a2 a3 a4 a5 a6 a7 a8 a9 a10 = true) (hS : suB a9 a12 a13 = true) : layR (tkB a0 a1 a2 a3 a4 a5 a6 a7 a8 a9 a10) [a0, a1, a2, a3, a4, a5, a6, a7, a8, a9, a10, a11, a12, a13, a14] = (l, 0) := by
  rw [hT]
  obtain rfl | h1' : d = 1 ∨ d ≠ 1 := by omega
  · rcases t with _ | ⟨v1, _ | ⟨v2, _ | ⟨v3, _ | ⟨v4, _ | ⟨v5, _ | ⟨v6, _ | ⟨v7, _ | ⟨v8, _ | ⟨v9, _ | ⟨v10, _ | ⟨v11, _ | ⟨v12, t2⟩⟩⟩⟩⟩⟩⟩⟩⟩⟩⟩⟩ <;> simp [wsL] at hvl
    have p1 := putE_lt (k := 7) (hp 1 (by decide))
    have p2 := putE_lt (k := 2) (hp 11 (by decide))
    simp only [List.getD_cons_zero, List.getD_cons_succ] at p1 p2
    simp only [cellsOf, List.getD_cons_zero, List.getD_cons_succ] at hc
    simp at hc
    obtain ⟨rfl, rfl, rfl, rfl, rfl, rfl, rfl, rfl, rfl, rfl, rfl, rfl, rfl, rfl, rfl⟩ := hc
    unfold layR
    rw [if_neg (by simp only [List.getD_cons_zero, List.getD_cons_succ]; simp [hS]; omega), if_neg (by simp only [List.getD_cons_zero, List.getD_cons_succ]; omega)]
    exact hj
  obtain rfl | h2' : d = 2 ∨ d ≠ 2 := by omega
  · rcases t with _ | ⟨v1, _ | ⟨v2, _ | ⟨v3, _ | ⟨v4, _ | ⟨v5, _ | ⟨v6, _ | ⟨v7, _ | ⟨v8, _ | ⟨v9, _ | ⟨v10, _ | ⟨v11, _ | ⟨v12, t2⟩⟩⟩⟩⟩⟩⟩⟩⟩⟩⟩⟩ <;> simp [wsL] at hvl
    have p1 := putE_lt (k := 7) (hp 1 (by decide))
    have p2 := putE_lt (k := 2) (hp 11 (by decide))
    simp only [List.getD_cons_zero, List.getD_cons_succ] at p1 p2
    simp only [cellsOf, List.getD_cons_zero, List.getD_cons_succ] at hc
    simp at hc
    obtain ⟨rfl, rfl, rfl, rfl, rfl, rfl, rfl, rfl, rfl, rfl, rfl, rfl, rfl, rfl, rfl⟩ := hc
    unfold layR
    rw [if_neg (by simp only [List.getD_cons_zero, List.getD_cons_succ]; simp [hS]; omega), if_neg (by simp only [List.getD_cons_zero, List.getD_cons_succ]; omega)]
    exact hj
  obtain rfl | h3' : d = 3 ∨ d ≠ 3 := by omega
  · rcases t with _ | ⟨v1, _ | ⟨v2, _ | ⟨v3, _ | ⟨v4, _ | ⟨v5, _ | ⟨v6, _ | ⟨v7, _ | ⟨v8, _ | ⟨v9, _ | ⟨v10, _ | ⟨v11, _ | ⟨v12, t2⟩⟩⟩⟩⟩⟩⟩⟩⟩⟩⟩⟩ <;> simp [wsL] at hvl
    have p1 := putE_lt (k := 7) (hp 1 (by decide))
    have p2 := putE_lt (k := 2) (hp 11 (by decide))
    simp only [List.getD_cons_zero, List.getD_cons_succ] at p1 p2
    simp only [cellsOf, List.getD_cons_zero, List.getD_cons_succ] at hc
    simp at hc
    obtain ⟨rfl, rfl, rfl, rfl, rfl, rfl, rfl, rfl, rfl, rfl, rfl, rfl, rfl, rfl, rfl⟩ := hc
    unfold layR
    rw [if_neg (by simp only [List.getD_cons_zero, List.getD_cons_succ]; simp [hS]; omega), if_neg (by simp only [List.getD_cons_zero, List.getD_cons_succ]; omega)]
    exact hj
  obtain rfl : d = 4 := by omega
  rcases t with _ | ⟨v1, _ | ⟨v2, _ | ⟨v3, _ | ⟨v4, _ | ⟨v5, _ | ⟨v6, _ | ⟨v7, _ | ⟨v8, _ | ⟨v9, _ | ⟨v10, _ | ⟨v11, _ | ⟨v12, _ | ⟨v13, t2⟩⟩⟩⟩⟩⟩⟩⟩⟩⟩⟩⟩⟩ <;> simp [wsL] at hvl
  have p1 := putE_lt (k := 7) (hp 1 (by decide))
  have p2 := putE_lt (k := 2) (hp 12 (by decide))
  simp only [List.getD_cons_zero, List.getD_cons_succ] at p1 p2
  simp only [cellsOf, List.getD_cons_zero, List.getD_cons_succ] at hc
  simp at hc
  obtain ⟨rfl, rfl, rfl, rfl, rfl, rfl, rfl, rfl, rfl, rfl, rfl, rfl, rfl, rfl, rfl⟩ := hc
  unfold layR
  rw [if_neg (by simp only [List.getD_cons_zero, List.getD_cons_succ]; simp [hS]; omega), if_neg (by simp only [List.getD_cons_zero, List.getD_cons_succ]; omega)]
  exact hj

/-- What layR tells of a reading that is put. -/
theorem layR_ok {a0 a1 a2 a3 a4 a5 a6 a7 a8 a9 a10 a11 a12 a13 a14 : Int} {l : List Int} (h : layR (tkB a0 a1 a2 a3 a4 a5 a6 a7 a8 a9 a10) [a0, a1, a2, a3, a4, a5, a6, a7, a8, a9, a10, a11, a12, a13, a14] = (l, 0)) :
    tkB a0 a1 a2 a3 a4 a5 a6 a7 a8 a9 a10 = true ∧ suB a9 a12 a13 = true ∧ 0 ≤ a11 ∧ a11 < 100 ∧ a14 = 0 ∧ a6 = 0 ∧ a0 ≤ 9999999 ∧ joinR (layV a1 [a0, a1, a2, a3, a4, a5, a6, a7, a8, a9, a10, a11, a12, a13, a14]) (wsL a1) = (l, 0) ∧ ¬ a1 < 1 ∧ ¬ 4 < a1 ∧ usesB a1 a9 = true := by
  unfold layR at h
  split at h
  · simp at h
  rename_i n1
  split at h
  · simp at h
  rename_i n2
  simp only [List.getD_cons_zero, List.getD_cons_succ] at n1 n2 h
  have hT : tkB a0 a1 a2 a3 a4 a5 a6 a7 a8 a9 a10 = true := by cases hq : tkB a0 a1 a2 a3 a4 a5 a6 a7 a8 a9 a10 with
    | true => rfl
    | false => exact absurd (.inl hq) n1
  have hS : suB a9 a12 a13 = true := by cases hq : suB a9 a12 a13 with
    | true => rfl
    | false => exact absurd (.inr (.inl hq)) n1
  have hu : usesB a1 a9 = true := by
    have h := hT; unfold tkB at h; simp only [Bool.and_eq_true] at h; exact h.2
  refine ⟨hT, hS, by omega, by omega, by omega, by omega, by omega, h, (tk_kind hT).1, (tk_kind hT).2, hu⟩

theorem lay_get {a0 a1 a2 a3 a4 a5 a6 a7 a8 a9 a10 a11 a12 a13 a14 : Int} {l : List Int} (h : layR (tkB a0 a1 a2 a3 a4 a5 a6 a7 a8 a9 a10) [a0, a1, a2, a3, a4, a5, a6, a7, a8, a9, a10, a11, a12, a13, a14] = (l, 0)) : layG l = ([a0, a1, a2, a3, a4, a5, a6, a7, a8, a9, a10, a11, a12, a13, a14], 0) := by
  obtain ⟨hT, hS, _, _, h14, h6, _, hj, hk1, hk4, hu⟩ := layR_ok h
  have hs := splitR_join (vs := layV a1 [a0, a1, a2, a3, a4, a5, a6, a7, a8, a9, a10, a11, a12, a13, a14]) (ws := wsL a1) (by rw [hj])
  rw [hj] at hs
  simp only at hs
  have hcs := cellsOf_layV hk1 hk4 hu h6 h14 (a0 := a0) (a2 := a2) (a3 := a3) (a4 := a4) (a5 := a5) (a7 := a7) (a8 := a8) (a10 := a10) (a11 := a11) (a12 := a12) (a13 := a13)
  cases l with
  | nil => exact absurd (by rw [hs]) (splitR_nil hk1 hk4)
  | cons d l' =>
    obtain ⟨ws, hws⟩ := wsL_head hk1 hk4
    have h9 : ¬ 9 < d := splitR_first (l := l') (ws := ws) (by rw [← hws, hs])
    obtain ⟨t, ht⟩ := splitR_head (l := l') (ws := ws) h9 (by rw [← hws, hs])
    rw [← hws, hs] at ht
    have hd : d = a1 := by
      have h0 : (layV a1 [a0, a1, a2, a3, a4, a5, a6, a7, a8, a9, a10, a11, a12, a13, a14]).head? = some a1 := by simp [layV, fl]
      simp only at ht
      rw [ht] at h0
      simpa using h0
    subst hd
    rw [layG_cons, if_neg h9, if_neg (by unfold wsE; rw [if_neg (by omega)]; simp), hs]
    simp only [ne_eq, not_true_eq_false, if_false]
    rw [hcs, if_pos (by unfold okC; simp only [List.getD_cons_zero, List.getD_cons_succ]; rw [hT, hS]; rfl)]

theorem lay_put {a0 a1 a2 a3 a4 a5 a6 a7 a8 a9 a10 a11 a12 a13 a14 : Int} {l : List Int} (hb : ∀ x ∈ l, 0 ≤ x ∧ x < 256) (h : layG l = ([a0, a1, a2, a3, a4, a5, a6, a7, a8, a9, a10, a11, a12, a13, a14], 0)) :
    layR (tkB a0 a1 a2 a3 a4 a5 a6 a7 a8 a9 a10) [a0, a1, a2, a3, a4, a5, a6, a7, a8, a9, a10, a11, a12, a13, a14] = (l, 0) ∧ tkB a0 a1 a2 a3 a4 a5 a6 a7 a8 a9 a10 = true ∧ suB a9 a12 a13 = true := by
  cases l with
  | nil => simp [layG] at h
  | cons d l' =>
    rw [layG_cons] at h
    split at h
    · simp at h
    rename_i h9
    split at h
    · rename_i h8; exact absurd (by simpa using congrArg Prod.snd h) h8
    rename_i h8
    split at h
    · rename_i h7; exact absurd (by simpa using congrArg Prod.snd h) h7
    rename_i h7
    split at h
    rotate_left
    · simp at h
    rename_i hok
    have hc : cellsOf d (splitR (d :: l') (wsL d)).1 = [a0, a1, a2, a3, a4, a5, a6, a7, a8, a9, a10, a11, a12, a13, a14] := congrArg Prod.fst h
    have hk := wsE_kind (show wsE d = 0 by simpa using h8)
    have h7' : (splitR (d :: l') (wsL d)).2 = 0 := by simpa using h7
    rw [hc] at hok
    have hok2 : tkB a0 a1 a2 a3 a4 a5 a6 a7 a8 a9 a10 = true ∧ suB a9 a12 a13 = true := by simpa [okC] using hok
    refine ⟨?_, hok2⟩
    have hvl := splitR_vlen h7'
    have hj := joinR_split hb h7'
    obtain ⟨ws, hws⟩ := wsL_head hk.1 hk.2
    obtain ⟨t, ht⟩ := splitR_head (l := l') (ws := ws) h9 (by rw [← hws]; exact h7')
    rw [← hws] at ht
    rw [ht] at hc hvl hj
    obtain ⟨_, _, hp⟩ := joinR_ok hj
    exact lay_put_fin hk.1 hk.2 hc hvl hj hp hok2.1 hok2.2

theorem putL_byte' (n wd : Int) : ∀ x ∈ putL n wd, 0 ≤ x ∧ x < 256 := by
  intro x hx
  unfold putL at hx
  split at hx
  · simp at hx
  · have := dg_byte _ _ x hx; omega
theorem joinGo_byte' : ∀ (l m acc : List Int), (∀ x ∈ acc, 0 ≤ x ∧ x < 256) → ∀ x ∈ (joinGo l m acc).1, 0 ≤ x ∧ x < 256
  | [], m, acc, h => by simpa [joinGo] using h
  | v :: l, [], acc, h => by simpa [joinGo] using h
  | v :: l, x :: m, acc, h => by
    rw [joinGo_cons]
    split
    · simp
    · refine joinGo_byte' l m _ fun y hy => ?_
      rcases List.mem_append.1 hy with k | k
      · exact h y k
      · exact putL_byte' v x y k
theorem joinR_byte' (l m : List Int) : ∀ x ∈ (joinR l m).1, 0 ≤ x ∧ x < 256 := by
  by_cases h : l.length ≠ m.length ∨ 20 < l.length
  · rw [joinR_arg h]; simp
  · rw [joinR_go (by omega) (by omega)]; exact joinGo_byte' l m [] (by simp)
theorem layR_byte {a0 a1 a2 a3 a4 a5 a6 a7 a8 a9 a10 a11 a12 a13 a14 : Int} {l : List Int} {e : Int} {T : Bool} (h : layR T [a0, a1, a2, a3, a4, a5, a6, a7, a8, a9, a10, a11, a12, a13, a14] = (l, e)) : ∀ x ∈ l, 0 ≤ x ∧ x < 256 := by
  unfold layR at h
  split at h
  · simp only [Prod.mk.injEq] at h; rw [← h.1]; simp
  split at h
  · simp only [Prod.mk.injEq] at h; rw [← h.1]; simp
  · have := joinR_byte' (layV ([a0, a1, a2, a3, a4, a5, a6, a7, a8, a9, a10, a11, a12, a13, a14].getD 1 0) [a0, a1, a2, a3, a4, a5, a6, a7, a8, a9, a10, a11, a12, a13, a14]) (wsL ([a0, a1, a2, a3, a4, a5, a6, a7, a8, a9, a10, a11, a12, a13, a14].getD 1 0))
    rw [h] at this; exact this

theorem lay_le {a0 a1 a2 a3 a4 a5 a6 a7 a8 a9 a10 a11 a12 a13 a14 : Int} {l : List Int} (h : layR (tkB a0 a1 a2 a3 a4 a5 a6 a7 a8 a9 a10) [a0, a1, a2, a3, a4, a5, a6, a7, a8, a9, a10, a11, a12, a13, a14] = (l, 0)) : ∀ x ∈ [a0, a1, a2, a3, a4, a5, a6, a7, a8, a9, a10, a11, a12, a13, a14], x ≤ 9223372036854775807 := by
  obtain ⟨hT, hS, hk0, hk9, h14, h6, h0, hj, hk1, hk4, hu⟩ := layR_ok h
  obtain ⟨_, hl, hp⟩ := joinR_ok hj
  have hall : ∀ v ∈ layV a1 [a0, a1, a2, a3, a4, a5, a6, a7, a8, a9, a10, a11, a12, a13, a14], v ≤ 9223372036854775807 := by
    intro v hm
    obtain ⟨i, hi, rfl⟩ := List.getElem_of_mem hm
    have := hp i (by omega)
    rw [List.getD_eq_getElem?_getD, List.getElem?_eq_getElem hi, Option.getD_some] at this
    obtain ⟨k, _, hk, h0, h1, _⟩ := put_ok this
    have h18 : (10 : Nat) ^ k ≤ 10 ^ 18 := Nat.pow_le_pow_right (by omega) hk
    have e : ((10 ^ k : Nat) : Int) = (10 : Int) ^ k := by simp
    rw [← e] at h1
    omega
  have h9 : a9 ≤ 9223372036854775807 := by
    obtain rfl | rfl | rfl | rfl : a1 = 1 ∨ a1 = 2 ∨ a1 = 3 ∨ a1 = 4 := by omega
    · have : a9 = 1 := by simpa [usesB] using hu
      omega
    · have : a9 = 2 := by simpa [usesB] using hu
      omega
    · have : a9 = 0 := by simpa [usesB] using hu
      omega
    · exact hall a9 (by simp [layV, fl])
  have h23 : a2 ≤ 9223372036854775807 ∧ a3 ≤ 9223372036854775807 := by
    obtain rfl | rfl | rfl | rfl : a1 = 1 ∨ a1 = 2 ∨ a1 = 3 ∨ a1 = 4 := by omega
    all_goals exact ⟨hall a2 (by simp [layV, fl]), hall a3 (by simp [layV, fl])⟩
  exact le15 (by omega) (by omega) h23.1 h23.2 (hall a4 (by simp [layV, fl])) (hall a5 (by simp [layV, fl])) (by omega) (hall a7 (by simp [layV, fl])) (hall a8 (by simp [layV, fl])) h9 (hall a10 (by simp [layV, fl])) (by omega) (hall a12 (by simp [layV, fl])) (hall a13 (by simp [layV, fl])) (by omega)

theorem cap_row {k : IntKind} {w : World} {a : Option Addr} {len cap : Nat} {zs : List Int} (h : IsRow k w a len cap zs) : len ≤ cap ∧ cap ≤ 9223372036854775807 := by
  rcases h with ⟨rfl, rfl, rfl, rfl⟩ | ⟨x, rfl, hl, hm, hz, hc, hw⟩
  · exact ⟨Nat.le_refl _, by omega⟩
  · unfold maxLen at hm; exact ⟨hl, by omega⟩
end Go.Proofs.Ythejnlelegcgfaa

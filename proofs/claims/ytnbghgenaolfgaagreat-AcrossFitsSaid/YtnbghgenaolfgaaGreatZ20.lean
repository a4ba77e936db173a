/- Layer 13, the plain laws: what is put is got again, what is got is put as it was, a kind's digits are as many, and the last six digits tell the journey and the key. Layer 15: what stripe.Encode computes. No condition. -/
import Derived.Test.YtnbghgenaolfgaaGreatZ19
import Derived.Test.YtnbghgenaolfgaaGreatZ13
import Derived.Test.YtnbghgenaolfgaaGreatZ01
import Derived.Test.YtnbghgenaolfgaaGreatZ15
import Derived.Test.YtnbghgenaolfgaaGreatZ17
namespace Go.Proofs.YtnbghgenaolfgaaGreat
open Go.RowKit
set_option linter.unusedVariables false
set_option maxRecDepth 100000
set_option linter.unusedSimpArgs false

theorem le15 {a0 a1 a2 a3 a4 a5 a6 a7 a8 a9 a10 a11 a12 a13 a14 m : Int} (h0 : a0 ≤ m) (h1 : a1 ≤ m) (h2 : a2 ≤ m) (h3 : a3 ≤ m) (h4 : a4 ≤ m) (h5 : a5 ≤ m) (h6 : a6 ≤ m) (h7 : a7 ≤ m) (h8 : a8 ≤ m) (h9 : a9 ≤ m) (h10 : a10 ≤ m) (h11 : a11 ≤ m) (h12 : a12 ≤ m) (h13 : a13 ≤ m) (h14 : a14 ≤ m) : ∀ x ∈ [a0, a1, a2, a3, a4, a5, a6, a7, a8, a9, a10, a11, a12, a13, a14], x ≤ m := by
  intro x hx
  simp only [List.mem_cons, List.not_mem_nil, or_false] at hx
  rcases hx with rfl | rfl | rfl | rfl | rfl | rfl | rfl | rfl | rfl | rfl | rfl | rfl | rfl | rfl | rfl <;> assumption

theorem layG_15 (l : List Int) : ∃ c0 c1 c2 c3 c4 c5 c6 c7 c8 c9 c10 c11 c12 c13 c14, (layG l).1 = [c0, c1, c2, c3, c4, c5, c6, c7, c8, c9, c10, c11, c12, c13, c14] := by
  cases l with
  | nil => exact ⟨_, _, _, _, _, _, _, _, _, _, _, _, _, _, _, rfl⟩
  | cons d l' =>
    rw [layG_cons]
    split
    · exact ⟨_, _, _, _, _, _, _, _, _, _, _, _, _, _, _, rfl⟩
    split
    · exact ⟨_, _, _, _, _, _, _, _, _, _, _, _, _, _, _, rfl⟩
    split
    · exact ⟨_, _, _, _, _, _, _, _, _, _, _, _, _, _, _, rfl⟩
    split
    · exact cellsOf_15 _ _
    · exact ⟨_, _, _, _, _, _, _, _, _, _, _, _, _, _, _, rfl⟩
theorem layG_fail {l : List Int} (h : (layG l).2 ≠ 0) : (layG l).1 = zeroC := by
  cases l with
  | nil => rfl
  | cons d l' =>
    rw [layG_cons] at h ⊢
    split
    · rfl
    split
    · rfl
    split
    · rfl
    split
    · rename_i h1 h2 h3 h4
      rw [if_neg h1, if_neg h2, if_neg h3, if_pos h4] at h
      exact absurd rfl h
    · rfl

theorem joinGo_ok : ∀ (vs ws acc : List Int), vs.length = ws.length → (joinGo vs ws acc).2 = 0 → joinGo vs ws acc = (acc ++ (List.zipWith putL vs ws).flatten, 0) ∧ ∀ i, i < ws.length → putE (vs.getD i 0) (ws.getD i 0) = 0
  | [], [], acc, _, _ => ⟨by simp [joinGo], fun i hi => by simp at hi⟩
  | [], _ :: _, _, h, _ => by simp at h
  | _ :: _, [], _, h, _ => by simp at h
  | v :: vs, x :: ws, acc, hl, h => by
    rw [joinGo_cons] at h ⊢
    by_cases hp : putE v x = 0
    · rw [if_neg (by simp [hp])] at h ⊢
      obtain ⟨e1, e2⟩ := joinGo_ok vs ws (acc ++ putL v x) (by simpa using hl) h
      refine ⟨by rw [e1]; simp, fun i hi => ?_⟩
      cases i with
      | zero => exact hp
      | succ i => exact e2 i (by simpa using hi)
    · rw [if_pos hp] at h; exact absurd h hp
theorem joinR_ok {vs ws l : List Int} (h : joinR vs ws = (l, 0)) : l = (List.zipWith putL vs ws).flatten ∧ vs.length = ws.length ∧ ∀ i, i < ws.length → putE (vs.getD i 0) (ws.getD i 0) = 0 := by
  by_cases ha : vs.length ≠ ws.length ∨ 20 < vs.length
  · rw [joinR_arg ha] at h; simp at h
  · rw [joinR_go (by omega) (by omega)] at h
    obtain ⟨e1, e2⟩ := joinGo_ok vs ws [] (by omega) (by rw [h])
    rw [h] at e1
    exact ⟨by simpa using congrArg Prod.fst e1, by omega, e2⟩
theorem joinR_sum {vs ws l : List Int} (h : joinR vs ws = (l, 0)) : sumGo ws 0 = some (l.length : Int) := by
  by_cases ha : vs.length ≠ ws.length ∨ 20 < vs.length
  · rw [joinR_arg ha] at h; simp at h
  · rw [joinR_go (by omega) (by omega)] at h
    obtain ⟨b, e1, e2, _⟩ := join_split vs ws [] [] 0 (by omega) (by rw [h])
    rw [h] at e1
    have : l = b := by simpa using congrArg Prod.fst e1
    rw [this]; simpa using e2

theorem splitR_nil {k : Int} (h1 : ¬ k < 1) (h4 : ¬ 4 < k) : (splitR [] (wsL k)).2 ≠ 0 := by
  obtain rfl | rfl | rfl | rfl : k = 1 ∨ k = 2 ∨ k = 3 ∨ k = 4 := by omega
  all_goals decide
theorem splitR_first {d : Int} {l ws : List Int} (h : (splitR (d :: l) (1 :: ws)).2 = 0) : ¬ 9 < d := by
  intro h9
  unfold splitR at h
  split at h
  · simp at h
  · split at h
    · simp at h
    · split at h
      · simp at h
      · have hg : getR [d] = (0, 7) := by rw [getR_short (by simp), getGo_cons, if_pos h9]
        rw [splitGo_cons] at h
        simp only [Int.toNat_one, List.take_succ_cons, List.take_zero, hg] at h
        simp at h

theorem cellsOf_layV {a0 a1 a2 a3 a4 a5 a6 a7 a8 a9 a10 a11 a12 a13 a14 : Int} (h1 : ¬ a1 < 1) (h4 : ¬ 4 < a1) (hu : usesB a1 a9 = true) (h6 : a6 = 0) (h14 : a14 = 0) : cellsOf a1 (layV a1 [a0, a1, a2, a3, a4, a5, a6, a7, a8, a9, a10, a11, a12, a13, a14]) = [a0, a1, a2, a3, a4, a5, a6, a7, a8, a9, a10, a11, a12, a13, a14] := by
  subst h6 h14
  obtain rfl | rfl | rfl | rfl : a1 = 1 ∨ a1 = 2 ∨ a1 = 3 ∨ a1 = 4 := by omega
  · obtain rfl : a9 = 1 := by simpa [usesB] using hu
    rfl
  · obtain rfl : a9 = 2 := by simpa [usesB] using hu
    rfl
  · obtain rfl : a9 = 0 := by simpa [usesB] using hu
    rfl
  · rfl

theorem putE_lt {v : Int} {k : Nat} (h : putE v k = 0) : 0 ≤ v ∧ v < 10 ^ k := by
  obtain ⟨n, e, _, h0, h1, _⟩ := put_ok h
  obtain rfl : k = n := by omega
  exact ⟨h0, h1⟩

theorem lay_put_fin {d a0 a1 a2 a3 a4 a5 a6 a7 a8 a9 a10 a11 a12 a13 a14 : Int} {t l : List Int} (h1 : ¬ d < 1) (h4 : ¬ 4 < d) (hc : cellsOf d (d :: t) = [a0, a1, a2, a3, a4, a5, a6, a7, a8, a9, a10, a11, a12, a13, a14]) (hvl : (d :: t).length = (wsL d).length) (hj : joinR (d :: t) (wsL d) = (l, 0))
    (hp : ∀ i, i < (wsL d).length → putE ((d :: t).getD i 0) ((wsL d).getD i 0) = 0) (hT : tkB a0 a1 a2 a3 a4 a5 a6 a7 a8 a9 a10 = true) (hS : suB a9 a12 a13 = true) : layR (tkB a0 a1 a2 a3 a4 a5 a6 a7 a8 a9 a10) [a0, a1, a2, a3, a4, a5, a6, a7, a8, a9, a10, a11, a12, a13, a14] = (l, 0) := by
  rw [hT]
  obtain rfl | h1' : d = 1 ∨ d ≠ 1 := by omega
  · rcases t with _ | ⟨v1, _ | ⟨v2, _ | ⟨v3, _ | ⟨v4, _ | ⟨v5, _ | ⟨v6, _ | ⟨v7, _ | ⟨v8, _ | ⟨v9, _ | ⟨v10, _ | ⟨v11, _ | ⟨v12, t2⟩⟩⟩⟩⟩⟩⟩⟩⟩⟩⟩⟩ <;> simp [wsL] at hvl
    have p1 := putE_lt (k := 7) (hp 1 (by decide))
    have p2 := putE_lt (k := 2) (hp 11 (by decide))
    simp only [List.getD_cons_zero, List.getD_cons_succ] at p1 p2
    simp only [cellsOf, List.getD_cons_zero, List.getD_cons_succ] at hc
    simp at hc
    obtain ⟨rfl, rfl, rfl, rfl, rfl, rfl, rfl, rfl, rfl, rfl, rfl, rfl, rfl, rfl, rfl⟩ := hc
    unfold layR
    rw [if_neg (by simp only [List.getD_cons_zero, List.getD_cons_succ]; simp [hS]; omega), if_neg (by simp only [List.getD_cons_zero, List.getD_cons_succ]; omega)]
    exact hj
  obtain rfl | h2' : d = 2 ∨ d ≠ 2 := by omega
  · rcases t with _ | ⟨v1, _ | ⟨v2, _ | ⟨v3, _ | ⟨v4, _ | ⟨v5, _ | ⟨v6, _ | ⟨v7, _ | ⟨v8, _ | ⟨v9, _ | ⟨v10, _ | ⟨v11, _ | ⟨v12, t2⟩⟩⟩⟩⟩⟩⟩⟩⟩⟩⟩⟩ <;> simp [wsL] at hvl
    have p1 := putE_lt (k := 7) (hp 1 (by decide))
    have p2 := putE_lt (k := 2) (hp 11 (by decide))
    simp only [List.getD_cons_zero, List.getD_cons_succ] at p1 p2
    simp only [cellsOf, List.getD_cons_zero, List.getD_cons_succ] at hc
    simp at hc
    obtain ⟨rfl, rfl, rfl, rfl, rfl, rfl, rfl, rfl, rfl, rfl, rfl, rfl, rfl, rfl, rfl⟩ := hc
    unfold layR
    rw [if_neg (by simp only [List.getD_cons_zero, List.getD_cons_succ]; simp [hS]; omega), if_neg (by simp only [List.getD_cons_zero, List.getD_cons_succ]; omega)]
    exact hj
  obtain rfl | h3' : d = 3 ∨ d ≠ 3 := by omega
  · rcases t with _ | ⟨v1, _ | ⟨v2, _ | ⟨v3, _ | ⟨v4, _ | ⟨v5, _ | ⟨v6, _ | ⟨v7, _ | ⟨v8, _ | ⟨v9, _ | ⟨v10, _ | ⟨v11, _ | ⟨v12, t2⟩⟩⟩⟩⟩⟩⟩⟩⟩⟩⟩⟩ <;> simp [wsL] at hvl
    have p1 := putE_lt (k := 7) (hp 1 (by decide))
    have p2 := putE_lt (k := 2) (hp 11 (by decide))
    simp only [List.getD_cons_zero, List.getD_cons_succ] at p1 p2
    simp only [cellsOf, List.getD_cons_zero, List.getD_cons_succ] at hc
    simp at hc
    obtain ⟨rfl, rfl, rfl, rfl, rfl, rfl, rfl, rfl, rfl, rfl, rfl, rfl, rfl, rfl, rfl⟩ := hc
    unfold layR
    rw [if_neg (by simp only [List.getD_cons_zero, List.getD_cons_succ]; simp [hS]; omega), if_neg (by simp only [List.getD_cons_zero, List.getD_cons_succ]; omega)]
    exact hj
  obtain rfl : d = 4 := by omega
  rcases t with _ | ⟨v1, _ | ⟨v2, _ | ⟨v3, _ | ⟨v4, _ | ⟨v5, _ | ⟨v6, _ | ⟨v7, _ | ⟨v8, _ | ⟨v9, _ | ⟨v10, _ | ⟨v11, _ | ⟨v12, _ | ⟨v13, t2⟩⟩⟩⟩⟩⟩⟩⟩⟩⟩⟩⟩⟩ <;> simp [wsL] at hvl
  have p1 := putE_lt (k := 7) (hp 1 (by decide))
  have p2 := putE_lt (k := 2) (hp 12 (by decide))
  simp only [List.getD_cons_zero, List.getD_cons_succ] at p1 p2
  simp only [cellsOf, List.getD_cons_zero, List.getD_cons_succ] at hc
  simp at hc
  obtain ⟨rfl, rfl, rfl, rfl, rfl, rfl, rfl, rfl, rfl, rfl, rfl, rfl, rfl, rfl, rfl⟩ := hc
  unfold layR
  rw [if_neg (by simp only [List.getD_cons_zero, List.getD_cons_succ]; simp [hS]; omega), if_neg (by simp only [List.getD_cons_zero, List.getD_cons_succ]; omega)]
  exact hj

/-- What layR tells of a reading that is put. -/
theorem layR_ok {a0 a1 a2 a3 a4 a5 a6 a7 a8 a9 a10 a11 a12 a13 a14 : Int} {l : List Int} (h : layR (tkB a0 a1 a2 a3 a4 a5 a6 a7 a8 a9 a10) [a0, a1, a2, a3, a4, a5, a6, a7, a8, a9, a10, a11, a12, a13, a14] = (l, 0)) :
    tkB a0 a1 a2 a3 a4 a5 a6 a7 a8 a9 a10 = true ∧ suB a9 a12 a13 = true ∧ 0 ≤ a11 ∧ a11 < 100 ∧ a14 = 0 ∧ a6 = 0 ∧ a0 ≤ 9999999 ∧ joinR (layV a1 [a0, a1, a2, a3, a4, a5, a6, a7, a8, a9, a10, a11, a12, a13, a14]) (wsL a1) = (l, 0) ∧ ¬ a1 < 1 ∧ ¬ 4 < a1 ∧ usesB a1 a9 = true := by
  unfold layR at h
  split at h
  · simp at h
  rename_i n1
  split at h
  · simp at h
  rename_i n2
  simp only [List.getD_cons_zero, List.getD_cons_succ] at n1 n2 h
  have hT : tkB a0 a1 a2 a3 a4 a5 a6 a7 a8 a9 a10 = true := by cases hq : tkB a0 a1 a2 a3 a4 a5 a6 a7 a8 a9 a10 with
    | true => rfl
    | false => exact absurd (.inl hq) n1
  have hS : suB a9 a12 a13 = true := by cases hq : suB a9 a12 a13 with
    | true => rfl
    | false => exact absurd (.inr (.inl hq)) n1
  have hu : usesB a1 a9 = true := by
    have h := hT; unfold tkB at h; simp only [Bool.and_eq_true] at h; exact h.2
  refine ⟨hT, hS, by omega, by omega, by omega, by omega, by omega, h, (tk_kind hT).1, (tk_kind hT).2, hu⟩

theorem lay_get {a0 a1 a2 a3 a4 a5 a6 a7 a8 a9 a10 a11 a12 a13 a14 : Int} {l : List Int} (h : layR (tkB a0 a1 a2 a3 a4 a5 a6 a7 a8 a9 a10) [a0, a1, a2, a3, a4, a5, a6, a7, a8, a9, a10, a11, a12, a13, a14] = (l, 0)) : layG l = ([a0, a1, a2, a3, a4, a5, a6, a7, a8, a9, a10, a11, a12, a13, a14], 0) := by
  obtain ⟨hT, hS, _, _, h14, h6, _, hj, hk1, hk4, hu⟩ := layR_ok h
  have hs := splitR_join (vs := layV a1 [a0, a1, a2, a3, a4, a5, a6, a7, a8, a9, a10, a11, a12, a13, a14]) (ws := wsL a1) (by rw [hj])
  rw [hj] at hs
  simp only at hs
  have hcs := cellsOf_layV hk1 hk4 hu h6 h14 (a0 := a0) (a2 := a2) (a3 := a3) (a4 := a4) (a5 := a5) (a7 := a7) (a8 := a8) (a10 := a10) (a11 := a11) (a12 := a12) (a13 := a13)
  cases l with
  | nil => exact absurd (by rw [hs]) (splitR_nil hk1 hk4)
  | cons d l' =>
    obtain ⟨ws, hws⟩ := wsL_head hk1 hk4
    have h9 : ¬ 9 < d := splitR_first (l := l') (ws := ws) (by rw [← hws, hs])
    obtain ⟨t, ht⟩ := splitR_head (l := l') (ws := ws) h9 (by rw [← hws, hs])
    rw [← hws, hs] at ht
    have hd : d = a1 := by
      have h0 : (layV a1 [a0, a1, a2, a3, a4, a5, a6, a7, a8, a9, a10, a11, a12, a13, a14]).head? = some a1 := by simp [layV, fl]
      simp only at ht
      rw [ht] at h0
      simpa using h0
    subst hd
    rw [layG_cons, if_neg h9, if_neg (by unfold wsE; rw [if_neg (by omega)]; simp), hs]
    simp only [ne_eq, not_true_eq_false, if_false]
    rw [hcs, if_pos (by unfold okC; simp only [List.getD_cons_zero, List.getD_cons_succ]; rw [hT, hS]; rfl)]

theorem lay_put {a0 a1 a2 a3 a4 a5 a6 a7 a8 a9 a10 a11 a12 a13 a14 : Int} {l : List Int} (hb : ∀ x ∈ l, 0 ≤ x ∧ x < 256) (h : layG l = ([a0, a1, a2, a3, a4, a5, a6, a7, a8, a9, a10, a11, a12, a13, a14], 0)) :
    layR (tkB a0 a1 a2 a3 a4 a5 a6 a7 a8 a9 a10) [a0, a1, a2, a3, a4, a5, a6, a7, a8, a9, a10, a11, a12, a13, a14] = (l, 0) ∧ tkB a0 a1 a2 a3 a4 a5 a6 a7 a8 a9 a10 = true ∧ suB a9 a12 a13 = true := by
  cases l with
  | nil => simp [layG] at h
  | cons d l' =>
    rw [layG_cons] at h
    split at h
    · simp at h
    rename_i h9
    split at h
    · rename_i h8; exact absurd (by simpa using congrArg Prod.snd h) h8
    rename_i h8
    split at h
    · rename_i h7; exact absurd (by simpa using congrArg Prod.snd h) h7
    rename_i h7
    split at h
    rotate_left
    · simp at h
    rename_i hok
    have hc : cellsOf d (splitR (d :: l') (wsL d)).1 = [a0, a1, a2, a3, a4, a5, a6, a7, a8, a9, a10, a11, a12, a13, a14] := congrArg Prod.fst h
    have hk := wsE_kind (show wsE d = 0 by simpa using h8)
    have h7' : (splitR (d :: l') (wsL d)).2 = 0 := by simpa using h7
    rw [hc] at hok
    have hok2 : tkB a0 a1 a2 a3 a4 a5 a6 a7 a8 a9 a10 = true ∧ suB a9 a12 a13 = true := by simpa [okC] using hok
    refine ⟨?_, hok2⟩
    have hvl := splitR_vlen h7'
    have hj := joinR_split hb h7'
    obtain ⟨ws, hws⟩ := wsL_head hk.1 hk.2
    obtain ⟨t, ht⟩ := splitR_head (l := l') (ws := ws) h9 (by rw [← hws]; exact h7')
    rw [← hws] at ht
    rw [ht] at hc hvl hj
    obtain ⟨_, _, hp⟩ := joinR_ok hj
    exact lay_put_fin hk.1 hk.2 hc hvl hj hp hok2.1 hok2.2

theorem putL_byte' (n wd : Int) : ∀ x ∈ putL n wd, 0 ≤ x ∧ x < 256 := by
  intro x hx
  unfold putL at hx
  split at hx
  · simp at hx
  · have := dg_byte _ _ x hx; omega
theorem joinGo_byte' : ∀ (l m acc : List Int), (∀ x ∈ acc, 0 ≤ x ∧ x < 256) → ∀ x ∈ (joinGo l m acc).1, 0 ≤ x ∧ x < 256
  | [], m, acc, h => by simpa [joinGo] using h
  | v :: l, [], acc, h => by simpa [joinGo] using h
  | v :: l, x :: m, acc, h => by
    rw [joinGo_cons]
    split
    · simp
    · refine joinGo_byte' l m _ fun y hy => ?_
      rcases List.mem_append.1 hy with k | k
      · exact h y k
      · exact putL_byte' v x y k
theorem joinR_byte' (l m : List Int) : ∀ x ∈ (joinR l m).1, 0 ≤ x ∧ x < 256 := by
  by_cases h : l.length ≠ m.length ∨ 20 < l.length
  · rw [joinR_arg h]; simp
  · rw [joinR_go (by omega) (by omega)]; exact joinGo_byte' l m [] (by simp)
theorem layR_byte {a0 a1 a2 a3 a4 a5 a6 a7 a8 a9 a10 a11 a12 a13 a14 : Int} {l : List Int} {e : Int} {T : Bool} (h : layR T [a0, a1, a2, a3, a4, a5, a6, a7, a8, a9, a10, a11, a12, a13, a14] = (l, e)) : ∀ x ∈ l, 0 ≤ x ∧ x < 256 := by
  unfold layR at h
  split at h
  · simp only [Prod.mk.injEq] at h; rw [← h.1]; simp
  split at h
  · simp only [Prod.mk.injEq] at h; rw [← h.1]; simp
  · have := joinR_byte' (layV ([a0, a1, a2, a3, a4, a5, a6, a7, a8, a9, a10, a11, a12, a13, a14].getD 1 0) [a0, a1, a2, a3, a4, a5, a6, a7, a8, a9, a10, a11, a12, a13, a14]) (wsL ([a0, a1, a2, a3, a4, a5, a6, a7, a8, a9, a10, a11, a12, a13, a14].getD 1 0))
    rw [h] at this; exact this

theorem lay_le {a0 a1 a2 a3 a4 a5 a6 a7 a8 a9 a10 a11 a12 a13 a14 : Int} {l : List Int} (h : layR (tkB a0 a1 a2 a3 a4 a5 a6 a7 a8 a9 a10) [a0, a1, a2, a3, a4, a5, a6, a7, a8, a9, a10, a11, a12, a13, a14] = (l, 0)) : ∀ x ∈ [a0, a1, a2, a3, a4, a5, a6, a7, a8, a9, a10, a11, a12, a13, a14], x ≤ 9223372036854775807 := by
  obtain ⟨hT, hS, hk0, hk9, h14, h6, h0, hj, hk1, hk4, hu⟩ := layR_ok h
  obtain ⟨_, hl, hp⟩ := joinR_ok hj
  have hall : ∀ v ∈ layV a1 [a0, a1, a2, a3, a4, a5, a6, a7, a8, a9, a10, a11, a12, a13, a14], v ≤ 9223372036854775807 := by
    intro v hm
    obtain ⟨i, hi, rfl⟩ := List.getElem_of_mem hm
    have := hp i (by omega)
    rw [List.getD_eq_getElem?_getD, List.getElem?_eq_getElem hi, Option.getD_some] at this
    obtain ⟨k, _, hk, h0, h1, _⟩ := put_ok this
    have h18 : (10 : Nat) ^ k ≤ 10 ^ 18 := Nat.pow_le_pow_right (by omega) hk
    have e : ((10 ^ k : Nat) : Int) = (10 : Int) ^ k := by simp
    rw [← e] at h1
    omega
  have h9 : a9 ≤ 9223372036854775807 := by
    obtain rfl | rfl | rfl | rfl : a1 = 1 ∨ a1 = 2 ∨ a1 = 3 ∨ a1 = 4 := by omega
    · have : a9 = 1 := by simpa [usesB] using hu
      omega
    · have : a9 = 2 := by simpa [usesB] using hu
      omega
    · have : a9 = 0 := by simpa [usesB] using hu
      omega
    · exact hall a9 (by simp [layV, fl])
  have h23 : a2 ≤ 9223372036854775807 ∧ a3 ≤ 9223372036854775807 := by
    obtain rfl | rfl | rfl | rfl : a1 = 1 ∨ a1 = 2 ∨ a1 = 3 ∨ a1 = 4 := by omega
    all_goals exact ⟨hall a2 (by simp [layV, fl]), hall a3 (by simp [layV, fl])⟩
  exact le15 (by omega) (by omega) h23.1 h23.2 (hall a4 (by simp [layV, fl])) (hall a5 (by simp [layV, fl])) (by omega) (hall a7 (by simp [layV, fl])) (hall a8 (by simp [layV, fl])) h9 (hall a10 (by simp [layV, fl])) (by omega) (hall a12 (by simp [layV, fl])) (hall a13 (by simp [layV, fl])) (by omega)

theorem cap_row {k : IntKind} {w : World} {a : Option Addr} {len cap : Nat} {zs : List Int} (h : IsRow k w a len cap zs) : len ≤ cap ∧ cap ≤ 9223372036854775807 := by
  rcases h with ⟨rfl, rfl, rfl, rfl⟩ | ⟨x, rfl, hl, hm, hz, hc, hw⟩
  · exact ⟨Nat.le_refl _, by omega⟩
  · unfold maxLen at hm; exact ⟨hl, by omega⟩
end Go.Proofs.YtnbghgenaolfgaaGreat

namespace Go.Proofs.YtnbghgenaolfgaaGreat
open Go.RowKit
set_option linter.unusedVariables false
set_option maxRecDepth 100000
set_option linter.unusedSimpArgs false

/-- What stripe.Encode computes. -/
def encS (ks : List Ky) (l : List Int) : List Int × Int :=
  if ringB ks = false then ([], 1) else if (layR (tkL l) l).2 ≠ 0 then ([], (layR (tkL l) l).2) else match findE ks (l.getD 11 0) with
    | (none, e) => ([], e)
    | (some k, _) => trackPut ((layR (tkL l) l).1 ++ tagS k.sec (layR (tkL l) l).1)
theorem bxB {W W' : World} {B : Nat} {t : TypeId} {v : Value} (h : Boxed W B t v) (hb : Below W.heap.size W W') : Boxed W' B t v := (hb.block _ h.lt).trans h
theorem rightS_len {k : Ky} (h : rightB k = true) : 1 ≤ k.sec.length ∧ k.sec.length ≤ 64 := by
  unfold rightB at h
  simp only [Bool.and_eq_true, decide_eq_true_eq] at h
  exact h.1.2
theorem panic_res (n : Int) (w : World) : (Instr.panic (.iface 31 (.int .i64 n))).run Tryz.prog w = .halt (.panic (.iface 31 (.int .i64 n))) w := rfl
theorem must_ok (w : World) : Calls Tryz.prog 38 #[.int .i64 0] w fun e w' => e = .returned (.tuple #[]) ∧ w = w' := by
  go_enter Tryz.func38, Tryz.ntmps38
  go_wp2
  go_end0
  exact ⟨rfl, rfl⟩
theorem must_bad (z : Int) (w : World) (hz : z ≠ 0) : Calls Tryz.prog 38 #[.int .i64 z] w fun e w' => e = .panicked [{ v := .iface 31 (.int .i64 z), recovered := false }] ∧ w = w' := by
  have hd : (z != 0) = true := by simpa using hz
  have hP := panic_res z
  clear hz
  go_enter Tryz.func38, Tryz.ntmps38
  go_wp2
  exact ⟨rfl, rfl, rfl⟩
theorem caught_any (n : Int) (w : World) : Calls Tryz.prog 36 #[.iface 31 (.int .i64 n)] w fun e w' => e = .returned (.int .i64 n) ∧ w = w' := by
  have hta : ∀ (w : World), (Instr.typeAssert (.iface 31 (.int .i64 n)) 20 31 true).run Tryz.prog w = .ok (.tuple #[.int .i64 n, .bool true]) w := fun _ => rfl
  go_enter Tryz.func36, Tryz.ntmps36
  go_wp2
  go_ret
  exact ⟨rfl, rfl⟩
set_option maxHeartbeats 1000000 in
theorem senc_panicking (p q : Nat) (n : Int) (older : List PanicEntry) (w : World) (u v : Value) (hp : Boxed w p 30 u) (hq : Boxed w q 31 v) (hne : p ≠ q) :
    CallsD Tryz.prog 35 #[.pointer (some ⟨p, 0, none⟩), .pointer (some ⟨q, 0, none⟩)] (.panicking ({ v := .iface 31 (.int .i64 n), recovered := false } :: older)) w fun e u' w' =>
      e = .returned (.tuple #[]) ∧ u' = .panicking ({ v := .iface 31 (.int .i64 n), recovered := true } :: older) ∧ w' = (w.setCell ⟨p, 0, none⟩ (.slice none 0 0)).setCell ⟨q, 0, none⟩ (.int .i64 n) := by
  refine callsD_of_wpS Tryz.func35 rfl fun c₀ cs hu => ?_
  have hc := hp.cell
  have hf := hp.frozen
  have hq1 : Boxed (w.setCell ⟨p, 0, none⟩ (.slice none 0 0)) q 31 v := hq.other hne.symm _
  have hc1 := hq1.cell
  have hf1 := hq1.frozen
  have hnq : ∀ (w : World), (binOp BinOp.neq 20 (.iface 31 (.int .i64 n)) .nilIface).run Tryz.prog w = .ok (.bool true) w := fun _ => rfl
  clear hp hq hq1
  simp only [Tryz.ntmps35, List.size_toArray, List.length_cons, List.length_nil, Nat.reduceAdd, Nat.reduceSub, Array.replicate_succ, Array.replicate_zero, List.push_toArray, List.append_toArray, List.nil_append, List.cons_append]
  apply wpS_seq
  apply wpS_region
  simp [wpOpsS, go_sem, recoverD, hu, Tryz.ntmps35, Exit.thenS]
  refine wpS_of_wp ?_
  go_wp2_with (go_at_call 36; (with_reducible refine (caught_any _ _).mono ?_); rintro e w' ⟨rfl, rfl⟩)
  exact ⟨rfl, _, rfl, _, results_none rfl _ _ _, rfl, rfl, rfl⟩
set_option maxHeartbeats 1000000 in
theorem senc_idle (p q : Addr) (w : World) :
    CallsD Tryz.prog 35 #[.pointer (some p), .pointer (some q)] .returning w fun e u' w' => e = .returned (.tuple #[]) ∧ u' = .returning ∧ w' = w := by
  refine callsD_of_wpS Tryz.func35 rfl fun c₀ cs hu => ?_
  have hnq : ∀ (w : World), (binOp BinOp.neq 20 .nilIface .nilIface).run Tryz.prog w = .ok (.bool false) w := fun _ => rfl
  simp only [Tryz.ntmps35, List.size_toArray, List.length_cons, List.length_nil, Nat.reduceAdd, Nat.reduceSub, Array.replicate_succ, Array.replicate_zero, List.push_toArray, List.append_toArray, List.nil_append, List.cons_append]
  apply wpS_seq
  apply wpS_region
  simp [wpOpsS, go_sem, recoverD, hu, Tryz.ntmps35, Exit.thenS]
  refine wpS_of_wp ?_
  go_wp2
  exact ⟨rfl, .returning, by cases c₀; simp_all, _, results_none rfl _ _ _, rfl, rfl, rfl⟩
theorem senc_out {r : List Int × Int} {w w' : World} {tmps : Array Value} {v : Value} (hp : tmps.getD 4 undef = .pointer (some ⟨w.heap.size + 1, 0, none⟩)) (hq : tmps.getD 5 undef = .pointer (some ⟨w.heap.size + 1 + 1, 0, none⟩))
    (h1 : Boxed w' (w.heap.size + 1) 30 v) (h2 : Boxed w' (w.heap.size + 1 + 1) 31 (.int .i64 r.2)) (hr : w'.ownsRow w.heap.size 5 1 v r.1.length (r.1.map (.int .u8))) (hb : Below w.heap.size w w') :
    Leaves Tryz.prog Tryz.f13 tmps (ByteRetE r w) [] .returning w' :=
  ⟨_, results_cell2 rfl Tryz.underlying30 Tryz.underlying31 rfl rfl hp hq h1.cell h2.cell, v, rfl, hr, hb⟩
theorem senc_bad {r : List Int × Int} {w W : World} {tmps : Array Value} {z : Int} {u v : Value} {ds : List Deferred} (hp : tmps.getD 4 undef = .pointer (some ⟨w.heap.size + 1, 0, none⟩)) (hq : tmps.getD 5 undef = .pointer (some ⟨w.heap.size + 1 + 1, 0, none⟩))
    (h1 : Boxed W (w.heap.size + 1) 30 u) (h2 : Boxed W (w.heap.size + 1 + 1) 31 v) (hE : r = ([], z)) (hb : Below w.heap.size w W)
    (hd : ds = [{ target := .fn (.func 35) #[.pointer (some ⟨w.heap.size + 1, 0, none⟩), .pointer (some ⟨w.heap.size + 1 + 1, 0, none⟩)], args := #[] }]) :
    Leaves Tryz.prog Tryz.f13 tmps (ByteRetE r w) ds (.panicking [{ v := .iface 31 (.int .i64 z), recovered := false }]) W := by
  subst hE hd
  refine leaves_cons (f := 35) (args := #[.pointer (some ⟨w.heap.size + 1, 0, none⟩), .pointer (some ⟨w.heap.size + 1 + 1, 0, none⟩)]) (by simp) (by simp [go_sem]) ?_
  refine (senc_panicking (w.heap.size + 1) (w.heap.size + 1 + 1) z [] _ _ _ h1 h2 (by omega)).mono ?_
  rintro e u' w' ⟨rfl, rfl, rfl⟩
  exact senc_out hp hq ((h1.set _).other (by omega) _) ((h2.other (by omega) _).set _) (World.ownsRow_nil _ _ _ _) (bS (bS hb (by omega)) (by omega))
theorem senc_good {r : List Int × Int} {w W : World} {tmps : Array Value} {v : Value} {ds : List Deferred} (hp : tmps.getD 4 undef = .pointer (some ⟨w.heap.size + 1, 0, none⟩)) (hq : tmps.getD 5 undef = .pointer (some ⟨w.heap.size + 1 + 1, 0, none⟩))
    (h1 : Boxed W (w.heap.size + 1) 30 v) (h2 : Boxed W (w.heap.size + 1 + 1) 31 (.int .i64 r.2)) (hr : W.ownsRow w.heap.size 5 1 v r.1.length (r.1.map (.int .u8))) (hb : Below w.heap.size w W)
    (hd : ds = [{ target := .fn (.func 35) #[.pointer (some ⟨w.heap.size + 1, 0, none⟩), .pointer (some ⟨w.heap.size + 1 + 1, 0, none⟩)], args := #[] }]) :
    Leaves Tryz.prog Tryz.f13 tmps (ByteRetE r w) ds .returning W := by
  subst hd
  refine leaves_cons (f := 35) (args := #[.pointer (some ⟨w.heap.size + 1, 0, none⟩), .pointer (some ⟨w.heap.size + 1 + 1, 0, none⟩)]) (by simp) (by simp [go_sem]) ?_
  refine (senc_idle _ _ _).mono ?_
  rintro e u' w' ⟨rfl, rfl, rfl⟩
  exact senc_out hp hq h1 h2 hr hb
theorem new3 (w : World) (A B C : Obj) : ∃ w0, (((w.alloc A).alloc B).alloc C) = w0 ∧ w0.heap[w.heap.size]? = some A ∧ w0.heap[w.heap.size + 1]? = some B ∧ w0.heap[w.heap.size + 1 + 1]? = some C ∧ w0.heap.size = w.heap.size + 1 + 1 + 1 ∧ Below w.heap.size w w0 := by
  obtain ⟨w1, h1, a1, a2, a3, a4⟩ := new2 w A B
  obtain ⟨w2, h2, b1, b2, b3⟩ := new_block w1 C
  refine ⟨w2, by rw [h1, h2], (b2.block _ (by omega)).trans a1, (b2.block _ (by omega)).trans a2, by rw [a3] at b1; exact b1, by omega, bT a4 b2⟩
theorem trackPut_fail {d : List Int} (h : (trackPut d).2 ≠ 0) : (trackPut d).1 = [] := by
  unfold trackPut at h ⊢
  split
  · rfl
  · split
    · rfl
    · rename_i h1 h2
      rw [if_neg h1, if_neg h2] at h
      exact absurd rfl h
theorem joinGo_len : ∀ (l m acc : List Int), (joinGo l m acc).1.length ≤ acc.length + 18 * l.length
  | [], m, acc => by simp [joinGo]
  | v :: vs, [], acc => by simp [joinGo]
  | v :: vs, w :: ws, acc => by
    rw [joinGo_cons]
    split
    · simp
    · have h := joinGo_len vs ws (acc ++ putL v w)
      have h2 := putL_len v w
      simp only [List.length_append, List.length_cons] at h ⊢
      omega
theorem joinR_len360 (l m : List Int) : (joinR l m).1.length ≤ 360 := by
  unfold joinR
  split
  · simp
  · rename_i h
    have := joinGo_len l m []
    simp only [List.length_nil] at this
    omega
theorem layR_len (T : Bool) (c : List Int) : (layR T c).1.length ≤ 1000 := by
  unfold layR
  split
  · simp
  · split
    · simp
    · have := joinR_len360 (layV (c.getD 1 0) c) (wsL (c.getD 1 0)); omega
theorem fndE_none {l : List Ky} {id z : Int} (h : findE l id = (none, z)) : z ≠ 0 := by
  unfold findE at h
  split at h
  · have := congrArg Prod.snd h; simp at this; omega
  · split at h
    · split at h
      · exact absurd (congrArg Prod.fst h) (by simp)
      · have := congrArg Prod.snd h; simp at this; omega
    · have := congrArg Prod.snd h; simp at this; omega
theorem fndE_some {l : List Ky} {id z : Int} {k : Ky} (h : findE l id = (some k, z)) : z = 0 := by
  unfold findE at h
  split at h
  · exact absurd (congrArg Prod.fst h) (by simp)
  · split at h
    · split at h
      · have := congrArg Prod.snd h; simp at this; omega
      · exact absurd (congrArg Prod.fst h) (by simp)
    · exact absurd (congrArg Prod.fst h) (by simp)
theorem find_no {F : FuncId} {args : Array Value} {ks : List Ky} {id z : Int} {w : World} (hF : ∀ W, Below w.heap.size w W → Calls Tryz.prog F args W (FindRet ks id w W)) (h : findE ks id = (none, z)) (W : World) (hW : Below w.heap.size w W) :
    Calls Tryz.prog F args W fun e w' => e = .returned (.tuple #[.agg #[.int .i64 0, .slice none 0 0, .int .i64 0, .int .i64 0], .int .i64 z]) ∧ Below W.heap.size W w' := by
  refine (hF W hW).mono ?_
  rintro e w' ⟨⟨B, c, rfl, _⟩, hb⟩
  rw [h]
  exact ⟨rfl, hb⟩
theorem find_yes {F : FuncId} {args : Array Value} {ks : List Ky} {id : Int} {k : Ky} {z : Int} {w : World} (hF : ∀ W, Below w.heap.size w W → Calls Tryz.prog F args W (FindRet ks id w W)) (h : findE ks id = (some k, z)) (n : Nat) (hn : k.sec.length = n) (W : World) (hW : Below w.heap.size w W) :
    Calls Tryz.prog F args W fun e w' => (∃ B c, e = .returned (.tuple #[.agg #[.int .i64 k.id, .slice B n c, .int .i64 k.fr, .int .i64 k.til], .int .i64 0]) ∧ n ≤ c ∧ c ≤ 9223372036854775807 ∧ RdI w .u8 B k.sec ∧ (∀ x ∈ k.sec, 0 ≤ x ∧ x < 256) ∧ rightB k = true ∧ k.id = id) ∧ Below W.heap.size W w' := by
  have hz := fndE_some h
  subst hn hz
  refine (hF W hW).mono ?_
  rintro e w' ⟨⟨B, c, rfl, hk⟩, hb⟩
  rw [h] at hk ⊢
  obtain ⟨k1, k2, k3, k4, k5, k6⟩ := hk k rfl
  exact ⟨⟨B, c, rfl, k1, k2, k3, k4, k5, k6⟩, hb⟩
set_option maxHeartbeats 8000000 in
set_option maxRecDepth 100000 in
theorem stEncode_any (A : Option Addr) (c : Nat) (ks : List Ky) (a0 a1 a2 a3 a4 a5 a6 a7 a8 a9 a10 a11 a12 a13 a14 : Int) (w : World) (hr : RdK w A ks) (hl : ks.length ≤ 9223372036854775807) (hv : ∀ x ∈ [a0, a1, a2, a3, a4, a5, a6, a7, a8, a9, a10, a11, a12, a13, a14], x ≤ 9223372036854775807) :
    Calls Tryz.prog 13 #[.slice A ks.length c, .agg #[.int .i64 a0, .int .i64 a1, .int .i64 a2, .int .i64 a3, .int .i64 a4, .int .i64 a5, .int .i64 a6, .int .i64 a7, .int .i64 a8, .int .i64 a9, .int .i64 a10, .int .i64 a11, .int .i64 a12, .int .i64 a13, .int .i64 a14]] w (ByteRetE (encS ks [a0, a1, a2, a3, a4, a5, a6, a7, a8, a9, a10, a11, a12, a13, a14]) w) := by
  have hmf : ∀ (fn : Fn) (first cap : Array Value) (w : World), (Instr.makeFunc fn first cap).run Tryz.prog w = .ok (.func fn first cap) w := fun _ _ _ _ => rfl
  obtain ⟨i0, hi, hz0, hz1, hz2⟩ := info_parts infoB8
  obtain ⟨w0, e0, hR0, hA0, hB0, hsz, hb0⟩ := new3 w (.cells #[.int .i64 a0, .int .i64 a1, .int .i64 a2, .int .i64 a3, .int .i64 a4, .int .i64 a5, .int .i64 a6, .int .i64 a7, .int .i64 a8, .int .i64 a9, .int .i64 a10, .int .i64 a11, .int .i64 a12, .int .i64 a13, .int .i64 a14] 28) (.cells #[.slice none 0 0] 30) (.cells #[.int .i64 0] 31)
  replace hA0 : Boxed w0 (w.heap.size + 1) 30 (.slice none 0 0) := hA0
  replace hB0 : Boxed w0 (w.heap.size + 1 + 1) 31 (.int .i64 0) := hB0
  have hI := fun W hW => ringIs_any A c ks W hW hl
  have hr0 := hr.below hb0 (Nat.le_refl _)
  obtain ⟨L, hL⟩ : ∃ L, [a0, a1, a2, a3, a4, a5, a6, a7, a8, a9, a10, a11, a12, a13, a14] = L := ⟨_, rfl⟩
  have hP := fun W => layPut_any a0 a1 a2 a3 a4 a5 a6 a7 a8 a9 a10 a11 a12 a13 a14 W hv
  have hby := fun e l => layR_byte (l := l) (e := e) (T := tkB a0 a1 a2 a3 a4 a5 a6 a7 a8 a9 a10) (a0 := a0) (a1 := a1) (a2 := a2) (a3 := a3) (a4 := a4) (a5 := a5) (a6 := a6) (a7 := a7) (a8 := a8) (a9 := a9) (a10 := a10) (a11 := a11) (a12 := a12) (a13 := a13) (a14 := a14)
  rw [hL] at hP hby ⊢
  rw [show tkB a0 a1 a2 a3 a4 a5 a6 a7 a8 a9 a10 = tkL L by rw [← hL]; rfl] at hP hby
  have hll := layR_len (tkL L) L
  have h11 : L.getD 11 0 = a11 := by rw [← hL]; rfl
  have hF := fun W hb => ringFind_any A c ks a11 w W hr hb hl
  have hE : encS ks L = if ringB ks = false then ([], 1) else if (layR (tkL L) L).2 ≠ 0 then ([], (layR (tkL L) L).2) else match findE ks a11 with
    | (none, e) => ([], e)
    | (some k, _) => trackPut ((layR (tkL L) L).1 ++ tagS k.sec (layR (tkL L) L).1) := by unfold encS; rw [h11]
  clear hL h11 hv
  have hR11 : ∀ W : World, W.heap[w.heap.size]? = some (.cells #[.int .i64 a0, .int .i64 a1, .int .i64 a2, .int .i64 a3, .int .i64 a4, .int .i64 a5, .int .i64 a6, .int .i64 a7, .int .i64 a8, .int .i64 a9, .int .i64 a10, .int .i64 a11, .int .i64 a12, .int .i64 a13, .int .i64 a14] 28 (0, 0)) → W.cell? ⟨w.heap.size, 11, none⟩ = some (.int .i64 a11) := fun W h => cell_of_row W _ 11 _ _ _ h
  generalize encS ks L = r at *
  generalize layR (tkL L) L = p at *
  obtain ⟨pl, pz⟩ := p
  replace hby := hby pz pl rfl
  simp only at hE hll
  have hR0' : Hid (w0.heap[w.heap.size]? = _) := Lib.hid hR0
  clear hR0
  cases hz : ringB ks with
  | false =>
    rw [hz, if_pos rfl] at hE
    rw [hz] at hI
    have HE := Lib.hid hE
    clear hE hP hF
    go_enter_defers Tryz.func13, Tryz.ntmps13
    go_wp2_with (first | (go_at_call 37; (with_reducible refine (hI _ hr0).mono ?_); rintro e w1 ⟨rfl, hb1⟩; have hA1 := bxB hA0 hb1; have hB1 := bxB hB0 hb1; have hb2 := bT hb0 hb1) | (go_at_call 38; (with_reducible refine (must_bad 1 _ (by decide)).mono ?_); rintro e w' ⟨rfl, rfl⟩))
    exact senc_bad rfl rfl hA1 hB1 HE.out hb2 rfl
  | true =>
    rw [hz, if_neg (by decide)] at hE
    rw [hz] at hI
    by_cases hpz : pz = 0
    rotate_left
    · rw [if_pos hpz] at hE
      have HE := Lib.hid hE
      have HZ := Lib.hid hpz
      clear hE hF hpz
      go_enter_defers Tryz.func13, Tryz.ntmps13
      go_wp2_with (first | (go_at_call 37; (with_reducible refine (hI _ hr0).mono ?_); rintro e w1 ⟨rfl, hb1⟩; have hA1 := bxB hA0 hb1; have hB1 := bxB hB0 hb1; have hW1 := bT hb0 hb1; have hR1 := (hb1.block w.heap.size (Array.getElem?_eq_some_iff.1 hR0'.out).1).trans hR0'.out; clear hb1) | (refine wpList_load_row rfl 28 (.tmp 3) rfl w.heap.size rfl 28 #[.int .i64 a0, .int .i64 a1, .int .i64 a2, .int .i64 a3, .int .i64 a4, .int .i64 a5, .int .i64 a6, .int .i64 a7, .int .i64 a8, .int .i64 a9, .int .i64 a10, .int .i64 a11, .int .i64 a12, .int .i64 a13, .int .i64 a14] (0, 0) _ hR1 Tryz.underlying28 rfl ?_ ?_; (focus (exact infoR))) | (go_at_call 39; (with_reducible refine (hP _).mono ?_); rintro e w2 ⟨v, rfl, ho2, hb2⟩; obtain ⟨vA, vc, rfl, _, _⟩ := own_slice ho2; have hs2 := hb2.size; have hB2 := bxB hB1 hb2; have ho3 := ho2.kept (grownBy_setCell' _ (w.heap.size + 1 + 1) (.int .i64 pz)) (.inr (hB2.not_row (by decide) ho2).symm); have cB2 := hB2.cell; have fB2 := hB2.frozen; have HA3 := Lib.hid ((bxB hA1 hb2).other (B' := w.heap.size + 1 + 1) (by omega) (.int .i64 pz)); have HB3 := Lib.hid (hB2.set (.int .i64 pz)); have cB3 := HB3.out.cell; have HW3 := Lib.hid (bS (g := w.heap.size + 1 + 1) (j := 0) (v := .int .i64 pz) (bT hW1 hb2) (by omega)); have HR3 := Lib.hid ((Below.heap_setCell w2 ⟨w.heap.size + 1 + 1, 0, none⟩ (.int .i64 pz) w.heap.size (by show w.heap.size ≠ w.heap.size + 1 + 1; omega)).trans ((hb2.block w.heap.size (Array.getElem?_eq_some_iff.1 hR1).1).trans hR1)); clear hB2) | (go_at_call 38; (with_reducible refine (must_bad pz _ HZ.out).mono ?_); rintro e w' ⟨rfl, rfl⟩))
      exact senc_bad rfl rfl HA3.out HB3.out HE.out HW3.out rfl
    · rw [if_neg (by simpa using hpz)] at hE
      subst hpz
      obtain ⟨⟨fk, fz⟩, hfe⟩ : ∃ f, findE ks a11 = f := ⟨_, rfl⟩
      rw [hfe] at hE
      cases fk with
      | none =>
        have hfz : fz ≠ 0 := fndE_none hfe
        have hF2 := find_no hF hfe
        have HE := Lib.hid hE
        have HZ := Lib.hid hfz
        clear hE hF hfe hfz
        go_enter_defers Tryz.func13, Tryz.ntmps13
        go_wp2_with (first | (go_at_call 37; (with_reducible refine (hI _ hr0).mono ?_); rintro e w1 ⟨rfl, hb1⟩; have hA1 := bxB hA0 hb1; have hB1 := bxB hB0 hb1; have hW1 := bT hb0 hb1; have hR1 := (hb1.block w.heap.size (Array.getElem?_eq_some_iff.1 hR0'.out).1).trans hR0'.out; clear hb1) | (refine wpList_load_row rfl 28 (.tmp 3) rfl w.heap.size rfl 28 #[.int .i64 a0, .int .i64 a1, .int .i64 a2, .int .i64 a3, .int .i64 a4, .int .i64 a5, .int .i64 a6, .int .i64 a7, .int .i64 a8, .int .i64 a9, .int .i64 a10, .int .i64 a11, .int .i64 a12, .int .i64 a13, .int .i64 a14] (0, 0) _ hR1 Tryz.underlying28 rfl ?_ ?_; (focus (exact infoR))) | (go_at_call 39; (with_reducible refine (hP _).mono ?_); rintro e w2 ⟨v, rfl, ho2, hb2⟩; obtain ⟨vA, vc, rfl, _, _⟩ := own_slice ho2; have hs2 := hb2.size; have hB2 := bxB hB1 hb2; have ho3 := ho2.kept (grownBy_setCell' _ (w.heap.size + 1 + 1) (.int .i64 0)) (.inr (hB2.not_row (by decide) ho2).symm); have cB2 := hB2.cell; have fB2 := hB2.frozen; have HA3 := Lib.hid ((bxB hA1 hb2).other (B' := w.heap.size + 1 + 1) (by omega) (.int .i64 0)); have HB3 := Lib.hid (hB2.set (.int .i64 0)); have cB3 := HB3.out.cell; have HW3 := Lib.hid (bS (g := w.heap.size + 1 + 1) (j := 0) (v := .int .i64 0) (bT hW1 hb2) (by omega)); have HR3 := Lib.hid ((Below.heap_setCell w2 ⟨w.heap.size + 1 + 1, 0, none⟩ (.int .i64 0) w.heap.size (by show w.heap.size ≠ w.heap.size + 1 + 1; omega)).trans ((hb2.block w.heap.size (Array.getElem?_eq_some_iff.1 hR1).1).trans hR1)); clear hB2) | (go_at_call 38; (with_reducible refine (must_ok _).mono ?_); rintro e w9 ⟨rfl, rfl⟩; (try have hc11 := hR11 _ HR3.out)) | (go_at_call 32; (with_reducible refine (hF2 _ HW3.out).mono ?_); rintro e w4 ⟨rfl, hb4⟩; have hs4 : w1.heap.size ≤ w4.heap.size := (by have := hb4.size; simp only [World.size_setCell] at this; omega); have hB4 := (bxB HB3.out hb4).alloc (.cells #[.int .i64 0, .slice none 0 0, .int .i64 0, .int .i64 0] 56); have cB4 := hB4.cell; have fB4 := hB4.frozen; have HA5 := Lib.hid (((bxB HA3.out hb4).alloc (.cells #[.int .i64 0, .slice none 0 0, .int .i64 0, .int .i64 0] 56)).other (B' := w.heap.size + 1 + 1) (by omega) (.int .i64 fz)); have HB5 := Lib.hid (hB4.set (.int .i64 fz)); have cB5 := HB5.out.cell; have HW5 := Lib.hid (bS (g := w.heap.size + 1 + 1) (j := 0) (v := .int .i64 fz) (bA (bT HW3.out hb4) (.cells #[.int .i64 0, .slice none 0 0, .int .i64 0, .int .i64 0] 56)) (by omega)); have ho5 := (own_below (own_below ho3 hb4) (bel1 w4 (.cells #[.int .i64 0, .slice none 0 0, .int .i64 0, .int .i64 0] 56))).kept (grownBy_setCell' _ (w.heap.size + 1 + 1) (.int .i64 fz)) (.inr (hB4.not_row (by decide) (own_below (own_below ho3 hb4) (bel1 w4 (.cells #[.int .i64 0, .slice none 0 0, .int .i64 0, .int .i64 0] 56)))).symm); have hk5 := (Below.heap_setCell (w4.alloc (.cells #[.int .i64 0, .slice none 0 0, .int .i64 0, .int .i64 0] 56)) ⟨w.heap.size + 1 + 1, 0, none⟩ (.int .i64 fz) w4.heap.size (by have h := HB3.out.lt; have h2 := hb4.size; show w4.heap.size ≠ w.heap.size + 1 + 1; omega)).trans (heap_alloc_new w4 (.cells #[.int .i64 0, .slice none 0 0, .int .i64 0, .int .i64 0] 56)); clear hB4 hb4) | (go_at_call 38; (with_reducible refine (must_bad fz _ HZ.out).mono ?_); rintro e w' ⟨rfl, rfl⟩))
        exact senc_bad rfl rfl HA5.out HB5.out HE.out HW5.out rfl
      | some k =>
        have hF2 := find_yes hF hfe k.sec.length rfl
        have hTl := tagS_len k.sec pl
        have hT9 := tagS_9 k.sec pl
        have hTg := fun A' B' c' d' W h1 h2 h3 h4 => sTag_any A' B' c' d' k.sec pl W h1 h2 h3 (by omega) h4 hby
        obtain ⟨n, hn⟩ : ∃ n, k.sec.length = n := ⟨_, rfl⟩
        rw [hn] at hF2 hTg
        simp only at hE
        generalize tagS k.sec pl = T at *
        have hqb : ∀ x ∈ pl ++ T, 0 ≤ x ∧ x < 256 := by
          intro x hx
          rcases List.mem_append.1 hx with hx | hx
          · exact hby x hx
          · have := hT9 x hx; omega
        have hTP := fun A' c' W h => trackPut_any A' c' (pl ++ T) W h hqb
        have hfail := fun h => trackPut_fail (d := pl ++ T) h
        rw [← hE] at hTP hfail
        obtain ⟨q, hq⟩ : ∃ q, pl ++ T = q := ⟨_, rfl⟩
        rw [hq] at hTP
        obtain ⟨rl, rz⟩ := r
        have HQ := Lib.hid hq
        have HTL := Lib.hid hTl
        have HN := Lib.hid hn
        clear hE hF hfe hn hq hTl hT9 hqb
        by_cases hrz : rz = 0
        · subst hrz
          clear hfail
          go_enter_defers Tryz.func13, Tryz.ntmps13
          go_wp2_with (first | (go_at_call 37; (with_reducible refine (hI _ hr0).mono ?_); rintro e w1 ⟨rfl, hb1⟩; have hA1 := bxB hA0 hb1; have hB1 := bxB hB0 hb1; have hW1 := bT hb0 hb1; have hR1 := (hb1.block w.heap.size (Array.getElem?_eq_some_iff.1 hR0'.out).1).trans hR0'.out; clear hb1) | (refine wpList_load_row rfl 28 (.tmp 3) rfl w.heap.size rfl 28 #[.int .i64 a0, .int .i64 a1, .int .i64 a2, .int .i64 a3, .int .i64 a4, .int .i64 a5, .int .i64 a6, .int .i64 a7, .int .i64 a8, .int .i64 a9, .int .i64 a10, .int .i64 a11, .int .i64 a12, .int .i64 a13, .int .i64 a14] (0, 0) _ hR1 Tryz.underlying28 rfl ?_ ?_; (focus (exact infoR))) | (go_at_call 39; (with_reducible refine (hP _).mono ?_); rintro e w2 ⟨v, rfl, ho2, hb2⟩; obtain ⟨vA, vc, rfl, _, _⟩ := own_slice ho2; have hs2 := hb2.size; have hB2 := bxB hB1 hb2; have ho3 := ho2.kept (grownBy_setCell' _ (w.heap.size + 1 + 1) (.int .i64 0)) (.inr (hB2.not_row (by decide) ho2).symm); have cB2 := hB2.cell; have fB2 := hB2.frozen; have HA3 := Lib.hid ((bxB hA1 hb2).other (B' := w.heap.size + 1 + 1) (by omega) (.int .i64 0)); have HB3 := Lib.hid (hB2.set (.int .i64 0)); have cB3 := HB3.out.cell; have HW3 := Lib.hid (bS (g := w.heap.size + 1 + 1) (j := 0) (v := .int .i64 0) (bT hW1 hb2) (by omega)); have HR3 := Lib.hid ((Below.heap_setCell w2 ⟨w.heap.size + 1 + 1, 0, none⟩ (.int .i64 0) w.heap.size (by show w.heap.size ≠ w.heap.size + 1 + 1; omega)).trans ((hb2.block w.heap.size (Array.getElem?_eq_some_iff.1 hR1).1).trans hR1)); clear hB2) | (go_at_call 32; (with_reducible refine (hF2 _ HW3.out).mono ?_); rintro e w4 ⟨⟨Bk, ck, rfl, kk1, kk2, kk3, kk4, kk5, kk6⟩, hb4⟩; have hs4 : w1.heap.size ≤ w4.heap.size := (by have := hb4.size; simp only [World.size_setCell] at this; omega); clear kk6; have hB4 := (bxB HB3.out hb4).alloc (.cells #[.int .i64 k.id, .slice Bk n ck, .int .i64 k.fr, .int .i64 k.til] 56); have cB4 := hB4.cell; have fB4 := hB4.frozen; have HA5 := Lib.hid (((bxB HA3.out hb4).alloc (.cells #[.int .i64 k.id, .slice Bk n ck, .int .i64 k.fr, .int .i64 k.til] 56)).other (B' := w.heap.size + 1 + 1) (by omega) (.int .i64 0)); have HB5 := Lib.hid (hB4.set (.int .i64 0)); have cB5 := HB5.out.cell; have HW5 := Lib.hid (bS (g := w.heap.size + 1 + 1) (j := 0) (v := .int .i64 0) (bA (bT HW3.out hb4) (.cells #[.int .i64 k.id, .slice Bk n ck, .int .i64 k.fr, .int .i64 k.til] 56)) (by omega)); have ho5 := (own_below (own_below ho3 hb4) (bel1 w4 (.cells #[.int .i64 k.id, .slice Bk n ck, .int .i64 k.fr, .int .i64 k.til] 56))).kept (grownBy_setCell' _ (w.heap.size + 1 + 1) (.int .i64 0)) (.inr (hB4.not_row (by decide) (own_below (own_below ho3 hb4) (bel1 w4 (.cells #[.int .i64 k.id, .slice Bk n ck, .int .i64 k.fr, .int .i64 k.til] 56)))).symm); have hk5 := (Below.heap_setCell (w4.alloc (.cells #[.int .i64 k.id, .slice Bk n ck, .int .i64 k.fr, .int .i64 k.til] 56)) ⟨w.heap.size + 1 + 1, 0, none⟩ (.int .i64 0) w4.heap.size (by have h := HB3.out.lt; have h2 := hb4.size; show w4.heap.size ≠ w.heap.size + 1 + 1; omega)).trans (heap_alloc_new w4 (.cells #[.int .i64 k.id, .slice Bk n ck, .int .i64 k.fr, .int .i64 k.til] 56)); have hc51 := cell_of_row _ _ 1 _ _ _ hk5; simp only [List.getElem?_toArray, List.getElem?_cons_zero, List.getElem?_cons_succ] at hc51; clear hB4 hb4 hk5) | (go_at_call 41; (with_reducible refine (hTg Bk vA ck vc _ ?_ ?_ ?_ ?_).mono ?_); (focus (exact kk3.below HW5.out)); (focus (exact RdI.of_own ho5)); (focus (have := rightS_len kk5; have := HN.out; omega)); (focus (exact kk4)); rintro e w6 ⟨v6, rfl, ho6, hb6⟩; obtain ⟨A6, c6, rfl, _, _⟩ := own_slice ho6; have hr6 := RdI.of_own ho6; have hs6 : w1.heap.size ≤ w6.heap.size := (by have := hb6.size; simp only [World.size_setCell, World.size_alloc] at this; omega); have ho7 := own_below ho5 hb6; have HA6 := Lib.hid (bxB HA5.out hb6); have HB6 := Lib.hid (bxB HB5.out hb6); have HW6 := Lib.hid (bT HW5.out hb6); have hz6 := HW6.out.size; clear ho6 ho5 hb6) | (at_builtin; refine wpL_app (k := .u8) rfl _ _ 30 rfl w1.heap.size 5 i0 (.int .u8 0) 1 Tryz.underlying30 hi hz0 hz1 hz2 rfl _ pl rfl ho7 _ _ T rfl hr6 ?_ ?_ ?_ ?_; (focus (exact maxLen_ge (by have := HTL.out; omega))); (focus (have := HTL.out; omega)); (focus (exact hs6)); intro v8 w8 ho8 hg8 _; rw [HQ.out] at ho8; obtain ⟨A8, c8, rfl, _, _⟩ := own_slice ho8; have hr8 := RdI.of_own ho8; have HA8 := Lib.hid (HA6.out.kept hg8 (HA6.out.not_row (by decide) ho7)); have HB8 := Lib.hid (HB6.out.kept hg8 (HB6.out.not_row (by decide) ho7)); have HW8 := Lib.hid (bG HW6.out hg8 (fun k hk => Nat.le_trans hW1.size (own_ge ho7 k hk))); clear ho7 hg8 ho8) | (go_at_call 40; (with_reducible refine (hTP _ _ _ hr8).mono ?_); rintro e w9 ⟨v9, rfl, ho9, hb9⟩; obtain ⟨A9, c9, rfl, _, _⟩ := own_slice ho9; have hA9 := bxB HA8.out hb9; have cA9 := hA9.cell; have fA9 := hA9.frozen; have hB9 := (bxB HB8.out hb9).other (B' := w.heap.size + 1) (by omega) (.slice A9 rl.length c9); have cB9 := hB9.cell; have fB9 := hB9.frozen; have HA10 := Lib.hid ((hA9.set (.slice A9 rl.length c9)).other (B' := w.heap.size + 1 + 1) (by omega) (.int .i64 0)); have HB10 := Lib.hid (hB9.set (.int .i64 0)); have cB10 := HB10.out.cell; have cA10 := HA10.out.cell; have fA10 := HA10.out.frozen; have HO10 := Lib.hid ((ho9.kept (grownBy_setCell' _ (w.heap.size + 1) (.slice A9 rl.length c9)) (.inr (hA9.not_row (by decide) ho9).symm)).kept (grownBy_setCell' _ (w.heap.size + 1 + 1) (.int .i64 0)) (.inr (hB9.not_row (by decide) (ho9.kept (grownBy_setCell' _ (w.heap.size + 1) (.slice A9 rl.length c9)) (.inr (hA9.not_row (by decide) ho9).symm))).symm)); have HW10 := Lib.hid (bS (g := w.heap.size + 1 + 1) (j := 0) (v := .int .i64 0) (bS (g := w.heap.size + 1) (j := 0) (v := .slice A9 rl.length c9) (bT HW8.out hb9) (by omega)) (by omega)); clear hA9 hB9 ho9 hb9) | (go_at_call 38; (with_reducible refine (must_ok _).mono ?_); rintro e w9 ⟨rfl, rfl⟩; (try have hc11 := hR11 _ HR3.out)))
          refine senc_good rfl rfl ((HA10.out.set _).other (by omega) _) ((HB10.out.other (by omega) _).set _) ?_ (bS (bS HW10.out (by omega)) (by omega)) rfl
          have h2 := HO10.out.kept (grownBy_setCell' _ (w.heap.size + 1) (.slice A9 rl.length c9)) (.inr (HA10.out.not_row (by decide) HO10.out).symm)
          have h3 := h2.kept (grownBy_setCell' _ (w.heap.size + 1 + 1) (.int .i64 0)) (.inr ((HB10.out.other (B' := w.heap.size + 1) (by omega) (.slice A9 rl.length c9)).not_row (by decide) h2).symm)
          exact own_base h3 HW8.out.size
        · have HE := Lib.hid (show ((rl, rz) : List Int × Int) = ([], rz) from Prod.ext (hfail hrz) rfl)
          have HZ := Lib.hid hrz
          clear hfail hrz
          go_enter_defers Tryz.func13, Tryz.ntmps13
          go_wp2_with (first | (go_at_call 37; (with_reducible refine (hI _ hr0).mono ?_); rintro e w1 ⟨rfl, hb1⟩; have hA1 := bxB hA0 hb1; have hB1 := bxB hB0 hb1; have hW1 := bT hb0 hb1; have hR1 := (hb1.block w.heap.size (Array.getElem?_eq_some_iff.1 hR0'.out).1).trans hR0'.out; clear hb1) | (refine wpList_load_row rfl 28 (.tmp 3) rfl w.heap.size rfl 28 #[.int .i64 a0, .int .i64 a1, .int .i64 a2, .int .i64 a3, .int .i64 a4, .int .i64 a5, .int .i64 a6, .int .i64 a7, .int .i64 a8, .int .i64 a9, .int .i64 a10, .int .i64 a11, .int .i64 a12, .int .i64 a13, .int .i64 a14] (0, 0) _ hR1 Tryz.underlying28 rfl ?_ ?_; (focus (exact infoR))) | (go_at_call 39; (with_reducible refine (hP _).mono ?_); rintro e w2 ⟨v, rfl, ho2, hb2⟩; obtain ⟨vA, vc, rfl, _, _⟩ := own_slice ho2; have hs2 := hb2.size; have hB2 := bxB hB1 hb2; have ho3 := ho2.kept (grownBy_setCell' _ (w.heap.size + 1 + 1) (.int .i64 0)) (.inr (hB2.not_row (by decide) ho2).symm); have cB2 := hB2.cell; have fB2 := hB2.frozen; have HA3 := Lib.hid ((bxB hA1 hb2).other (B' := w.heap.size + 1 + 1) (by omega) (.int .i64 0)); have HB3 := Lib.hid (hB2.set (.int .i64 0)); have cB3 := HB3.out.cell; have HW3 := Lib.hid (bS (g := w.heap.size + 1 + 1) (j := 0) (v := .int .i64 0) (bT hW1 hb2) (by omega)); have HR3 := Lib.hid ((Below.heap_setCell w2 ⟨w.heap.size + 1 + 1, 0, none⟩ (.int .i64 0) w.heap.size (by show w.heap.size ≠ w.heap.size + 1 + 1; omega)).trans ((hb2.block w.heap.size (Array.getElem?_eq_some_iff.1 hR1).1).trans hR1)); clear hB2) | (go_at_call 32; (with_reducible refine (hF2 _ HW3.out).mono ?_); rintro e w4 ⟨⟨Bk, ck, rfl, kk1, kk2, kk3, kk4, kk5, kk6⟩, hb4⟩; have hs4 : w1.heap.size ≤ w4.heap.size := (by have := hb4.size; simp only [World.size_setCell] at this; omega); clear kk6; have hB4 := (bxB HB3.out hb4).alloc (.cells #[.int .i64 k.id, .slice Bk n ck, .int .i64 k.fr, .int .i64 k.til] 56); have cB4 := hB4.cell; have fB4 := hB4.frozen; have HA5 := Lib.hid (((bxB HA3.out hb4).alloc (.cells #[.int .i64 k.id, .slice Bk n ck, .int .i64 k.fr, .int .i64 k.til] 56)).other (B' := w.heap.size + 1 + 1) (by omega) (.int .i64 0)); have HB5 := Lib.hid (hB4.set (.int .i64 0)); have cB5 := HB5.out.cell; have HW5 := Lib.hid (bS (g := w.heap.size + 1 + 1) (j := 0) (v := .int .i64 0) (bA (bT HW3.out hb4) (.cells #[.int .i64 k.id, .slice Bk n ck, .int .i64 k.fr, .int .i64 k.til] 56)) (by omega)); have ho5 := (own_below (own_below ho3 hb4) (bel1 w4 (.cells #[.int .i64 k.id, .slice Bk n ck, .int .i64 k.fr, .int .i64 k.til] 56))).kept (grownBy_setCell' _ (w.heap.size + 1 + 1) (.int .i64 0)) (.inr (hB4.not_row (by decide) (own_below (own_below ho3 hb4) (bel1 w4 (.cells #[.int .i64 k.id, .slice Bk n ck, .int .i64 k.fr, .int .i64 k.til] 56)))).symm); have hk5 := (Below.heap_setCell (w4.alloc (.cells #[.int .i64 k.id, .slice Bk n ck, .int .i64 k.fr, .int .i64 k.til] 56)) ⟨w.heap.size + 1 + 1, 0, none⟩ (.int .i64 0) w4.heap.size (by have h := HB3.out.lt; have h2 := hb4.size; show w4.heap.size ≠ w.heap.size + 1 + 1; omega)).trans (heap_alloc_new w4 (.cells #[.int .i64 k.id, .slice Bk n ck, .int .i64 k.fr, .int .i64 k.til] 56)); have hc51 := cell_of_row _ _ 1 _ _ _ hk5; simp only [List.getElem?_toArray, List.getElem?_cons_zero, List.getElem?_cons_succ] at hc51; clear hB4 hb4 hk5) | (go_at_call 41; (with_reducible refine (hTg Bk vA ck vc _ ?_ ?_ ?_ ?_).mono ?_); (focus (exact kk3.below HW5.out)); (focus (exact RdI.of_own ho5)); (focus (have := rightS_len kk5; have := HN.out; omega)); (focus (exact kk4)); rintro e w6 ⟨v6, rfl, ho6, hb6⟩; obtain ⟨A6, c6, rfl, _, _⟩ := own_slice ho6; have hr6 := RdI.of_own ho6; have hs6 : w1.heap.size ≤ w6.heap.size := (by have := hb6.size; simp only [World.size_setCell, World.size_alloc] at this; omega); have ho7 := own_below ho5 hb6; have HA6 := Lib.hid (bxB HA5.out hb6); have HB6 := Lib.hid (bxB HB5.out hb6); have HW6 := Lib.hid (bT HW5.out hb6); have hz6 := HW6.out.size; clear ho6 ho5 hb6) | (at_builtin; refine wpL_app (k := .u8) rfl _ _ 30 rfl w1.heap.size 5 i0 (.int .u8 0) 1 Tryz.underlying30 hi hz0 hz1 hz2 rfl _ pl rfl ho7 _ _ T rfl hr6 ?_ ?_ ?_ ?_; (focus (exact maxLen_ge (by have := HTL.out; omega))); (focus (have := HTL.out; omega)); (focus (exact hs6)); intro v8 w8 ho8 hg8 _; rw [HQ.out] at ho8; obtain ⟨A8, c8, rfl, _, _⟩ := own_slice ho8; have hr8 := RdI.of_own ho8; have HA8 := Lib.hid (HA6.out.kept hg8 (HA6.out.not_row (by decide) ho7)); have HB8 := Lib.hid (HB6.out.kept hg8 (HB6.out.not_row (by decide) ho7)); have HW8 := Lib.hid (bG HW6.out hg8 (fun k hk => Nat.le_trans hW1.size (own_ge ho7 k hk))); clear ho7 hg8 ho8) | (go_at_call 40; (with_reducible refine (hTP _ _ _ hr8).mono ?_); rintro e w9 ⟨v9, rfl, ho9, hb9⟩; obtain ⟨A9, c9, rfl, _, _⟩ := own_slice ho9; have hA9 := bxB HA8.out hb9; have cA9 := hA9.cell; have fA9 := hA9.frozen; have hB9 := (bxB HB8.out hb9).other (B' := w.heap.size + 1) (by omega) (.slice A9 rl.length c9); have cB9 := hB9.cell; have fB9 := hB9.frozen; have HA10 := Lib.hid ((hA9.set (.slice A9 rl.length c9)).other (B' := w.heap.size + 1 + 1) (by omega) (.int .i64 rz)); have HB10 := Lib.hid (hB9.set (.int .i64 rz)); have cB10 := HB10.out.cell; have cA10 := HA10.out.cell; have fA10 := HA10.out.frozen; have HO10 := Lib.hid ((ho9.kept (grownBy_setCell' _ (w.heap.size + 1) (.slice A9 rl.length c9)) (.inr (hA9.not_row (by decide) ho9).symm)).kept (grownBy_setCell' _ (w.heap.size + 1 + 1) (.int .i64 rz)) (.inr (hB9.not_row (by decide) (ho9.kept (grownBy_setCell' _ (w.heap.size + 1) (.slice A9 rl.length c9)) (.inr (hA9.not_row (by decide) ho9).symm))).symm)); have HW10 := Lib.hid (bS (g := w.heap.size + 1 + 1) (j := 0) (v := .int .i64 rz) (bS (g := w.heap.size + 1) (j := 0) (v := .slice A9 rl.length c9) (bT HW8.out hb9) (by omega)) (by omega)); clear hA9 hB9 ho9 hb9) | (go_at_call 38; (with_reducible refine (must_ok _).mono ?_); rintro e w9 ⟨rfl, rfl⟩; (try have hc11 := hR11 _ HR3.out)) | (go_at_call 38; (with_reducible refine (must_bad rz _ HZ.out).mono ?_); rintro e w' ⟨rfl, rfl⟩))
          exact senc_bad rfl rfl HA10.out HB10.out HE.out HW10.out rfl
end Go.Proofs.YtnbghgenaolfgaaGreat

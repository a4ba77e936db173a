/- Layer 13's example: laid returns true. Digits and numbers, there and back: the plain laws of Put, Get, Join and Split. No condition. -/
import Derived.Test.YtnbghgenaolfgaaGreatZ18
import Derived.Test.YtnbghgenaolfgaaGreatZ04
import Derived.Test.YtnbghgenaolfgaaGreatZ05
namespace Go.Proofs.YtnbghgenaolfgaaGreat
open Go.RowKit
set_option linter.unusedVariables false
set_option maxRecDepth 100000
set_option linter.unusedSimpArgs false

theorem laid_e1 : layR (tkB 42 4 3 20 2 1 0 100 30 10 2) [42, 4, 3, 20, 2, 1, 0, 100, 30, 10, 2, 5, 9, 4, 0] = ([4, 0, 0, 0, 0, 0, 4, 2, 2, 1, 0, 0, 1, 0, 0, 0, 3, 0, 2, 0, 3, 2, 0, 1, 0, 0, 9, 0, 4, 0, 5], 0) := by decide +kernel
theorem laid_e2 : layG [4, 0, 0, 0, 0, 0, 4, 2, 2, 1, 0, 0, 1, 0, 0, 0, 3, 0, 2, 0, 3, 2, 0, 1, 0, 0, 9, 0, 4, 0, 5] = ([42, 4, 3, 20, 2, 1, 0, 100, 30, 10, 2, 5, 9, 4, 0], 0) := by decide +kernel
theorem laid_e3 : layR (tkB 42 4 3 20 2 1 1 100 30 10 2) [42, 4, 3, 20, 2, 1, 1, 100, 30, 10, 2, 5, 9, 4, 0] = ([], 18) := by decide +kernel
theorem laid_e4 : layR (tkB 42 4 3 20 2 1 1 100 30 10 2) [42, 4, 3, 20, 2, 1, 1, 100, 30, 10, 2, 5, 11, 4, 0] = ([], 1) := by decide +kernel
theorem laid_e5 : layG [5, 1] = ([0, 0, 0, 0, 0, 0, 0, 0, 0, 0, 0, 0, 0, 0, 0], 8) := by decide +kernel
theorem laid_e6 : layG [1, 1] = ([0, 0, 0, 0, 0, 0, 0, 0, 0, 0, 0, 0, 0, 0, 0], 14) := by decide +kernel

theorem laid_e7 : wsL 3 = [1, 7, 1, 1, 5, 3, 1, 1, 1, 2, 2, 2] := by decide +kernel
theorem laid_e8 : wsE 3 = 0 := by decide +kernel
theorem laid_e9 : ([4, 0, 0, 0, 0, 0, 4, 2, 2, 1, 0, 0, 1, 0, 0, 0, 3, 0, 2, 0, 3, 2, 0, 1, 0, 0, 9, 0, 4, 0, 5] == ([4, 0, 0, 0, 0, 0, 4, 2, 2, 1, 0, 0, 1, 0, 0, 0, 3, 0, 2, 0, 3, 2, 0, 1, 0, 0, 9, 0, 4, 0, 5] : List Int)) = true := by decide +kernel
theorem laid_e10 : suB 10 10 40 = true := by decide +kernel
theorem laid_e11 : suB 10 11 4 = false := by decide +kernel
theorem RdI.setCell {W : World} {k : IntKind} {A : Option Addr} {l : List Int} {b o : Nat} {v : Value} (h : RdI W k A l) (hne : ∀ ad, A = some ad → ad.block ≠ b) : RdI (W.setCell ⟨b, o, none⟩ v) k A l := by
  rcases h with h | ⟨ad, rfl, hlt, hc⟩
  · exact .inl h
  · refine .inr ⟨ad, rfl, ?_, fun j hj => (World.cell?_of_block (Below.heap_setCell _ _ _ _ (by have h := hne ad rfl; unfold Addr.add; split <;> simpa using h))).trans (hc j hj)⟩
    show _ < (W.heap.modify _ _).size
    rw [Array.size_modify]; exact hlt
theorem results_cell1 {P : Program} {fn : Func} {t : Tmp} {T ty : TypeId} (h : fn.results = #[.cell t T]) {d : TypeDesc} (hu : P.underlying T = some d) (hd : (match d with | .struct _ | .array _ _ => true | _ => false) = true)
    {tmps : Array Value} {g : Nat} {cs : Array Value} {fr : Nat × Nat} (hp : tmps.getD t undef = .pointer (some ⟨g, 0, none⟩)) {w : World} (hg : w.heap[g]? = some (.cells cs ty fr)) (hi : (P.info? T).map (·.size) = some cs.size) :
    (results fn tmps).run P w = .ok (.agg cs) w := by
  have hl := run_loadVar_row (P := P) w g ty T cs fr d hg hu hd hi
  simp only [results, h, Array.mapM_eq_mapM_toList, List.mapM_cons, List.mapM_nil]
  simp [Sem.run_bind, hp, asAddr, hl, Result.andThen]

end Go.Proofs.YtnbghgenaolfgaaGreat

namespace Go.Proofs.YtnbghgenaolfgaaGreat
open Go.RowKit
set_option linter.unusedVariables false
set_option maxRecDepth 100000
set_option linter.unusedSimpArgs false

theorem pow_pos10 (k : Nat) : (0 : Int) < 10 ^ k := Int.pow_pos (by omega)
theorem div_zero10 {n : Int} {k : Nat} (h0 : 0 ≤ n) (h : ¬ 0 < n / 10 ^ k) : n < 10 ^ k := by
  have hp := pow_pos10 k
  rcases Int.lt_or_le n (10 ^ k) with h1 | h1
  · exact h1
  · have := Int.le_ediv_of_mul_le hp (show 1 * 10 ^ k ≤ n by omega)
    omega

theorem mod_pow_succ (n : Int) (w : Nat) : n % 10 ^ (w + 1) = n / 10 ^ w % 10 * 10 ^ w + n % 10 ^ w := by
  have hp := pow_pos10 w
  have h1 := Int.emod_add_mul_ediv n (10 ^ w)
  have h2 := Int.emod_add_mul_ediv (n / 10 ^ w) 10
  have h3 := Int.emod_add_mul_ediv n (10 ^ (w + 1))
  have h4 := div_step n w
  rw [← h4] at h3
  have e : (10 : Int) ^ (w + 1) = 10 * 10 ^ w := by rw [Int.pow_succ]; exact Int.mul_comm _ _
  rw [e] at h3 ⊢
  generalize n / 10 ^ w = q at *
  generalize (10 : Int) ^ w = p at *
  have h5 : p * q = p * (q % 10) + p * (10 * (q / 10)) := by rw [← Int.mul_add, h2]
  have h6 : 10 * p * (q / 10) = p * (10 * (q / 10)) := by rw [Int.mul_comm 10 p, Int.mul_assoc]
  have h7 : q % 10 * p = p * (q % 10) := Int.mul_comm _ _
  omega

theorem get_dg : ∀ (w : Nat) (n acc : Int), getGo (dg w n) acc = (acc * 10 ^ w + n % 10 ^ w, 0)
  | 0, n, acc => by simp [dg, getGo, Int.emod_one]
  | w + 1, n, acc => by
    rw [dg_succ, getGo_cons, if_neg (by omega), get_dg w n]
    rw [mod_pow_succ n w]
    have e : (10 : Int) ^ (w + 1) = 10 * 10 ^ w := by rw [Int.pow_succ]; exact Int.mul_comm _ _
    rw [e, Int.add_mul]
    have : acc * (10 * 10 ^ w) = 10 * acc * 10 ^ w := by rw [← Int.mul_assoc, Int.mul_comm acc 10]
    rw [this]
    congr 1
    omega

theorem dg_get : ∀ (l : List Int) (acc r : Int), (∀ x ∈ l, 0 ≤ x) → getGo l acc = (r, 0) → dg l.length r = l ∧ r / 10 ^ l.length = acc
  | [], acc, r, hb, h => by
    simp only [getGo, Prod.mk.injEq, and_true] at h
    simp [dg, h]
  | d :: l, acc, r, hb, h => by
    rw [getGo_cons] at h
    split at h
    · simp at h
    · rename_i h9
      obtain ⟨h1, h2⟩ := dg_get l (10 * acc + d) r (fun x hx => hb x (List.mem_cons_of_mem _ hx)) h
      have hd := hb d List.mem_cons_self
      rw [List.length_cons, dg_succ, h1, h2, ← div_step, h2]
      exact ⟨by congr 1; omega, by omega⟩

theorem get_fail : ∀ (l : List Int) (acc : Int), (getGo l acc).2 ≠ 0 → (getGo l acc).1 = 0
  | [], acc, h => by simp [getGo] at h
  | d :: l, acc, h => by
    rw [getGo_cons] at h ⊢
    split
    · rfl
    · rename_i h9
      rw [if_neg h9] at h
      exact get_fail l _ h
theorem getR_fail {l : List Int} (h : (getR l).2 ≠ 0) : (getR l).1 = 0 := by
  unfold getR at h ⊢
  split
  · rfl
  · rename_i h18
    rw [if_neg h18] at h
    exact get_fail _ _ h

theorem put_ok {n wd : Int} (h : putE n wd = 0) : ∃ k : Nat, wd = (k : Int) ∧ k ≤ 18 ∧ 0 ≤ n ∧ n < 10 ^ k ∧ putL n wd = dg k n := by
  unfold putE at h
  split at h
  · omega
  · split at h
    · omega
    · rename_i h1 h2
      obtain ⟨k, rfl⟩ := Int.eq_ofNat_of_zero_le (show 0 ≤ wd by omega)
      simp only [Int.toNat_natCast] at h2
      exact ⟨k, rfl, by omega, by omega, div_zero10 (by omega) h2, putL_ok (by omega) (by omega) h2⟩
theorem put_get {n wd : Int} (h : putE n wd = 0) : getR (putL n wd) = (n, 0) ∧ ((putL n wd).length : Int) = wd := by
  obtain ⟨k, rfl, hk, h0, h1, e⟩ := put_ok h
  rw [e, getR_short (by rw [dg_len]; omega), get_dg, dg_len]
  refine ⟨?_, rfl⟩
  rw [Int.emod_eq_of_lt h0 h1]; simp
theorem get_put {l : List Int} (hb : ∀ x ∈ l, 0 ≤ x ∧ x < 256) (h : (getR l).2 = 0) (hl : ¬ 18 < l.length) : putE (getR l).1 l.length = 0 ∧ putL (getR l).1 l.length = l := by
  rw [getR_short hl] at h ⊢
  obtain ⟨r, hr⟩ : ∃ r, getGo l 0 = (r, 0) := ⟨(getGo l 0).1, Prod.ext rfl h⟩
  rw [hr]
  obtain ⟨h1, h2⟩ := dg_get l 0 r (fun x hx => (hb x hx).1) hr
  have hp := pow_pos10 l.length
  have h0 : 0 ≤ r := by
    rcases Int.lt_or_le r 0 with hn | hn
    · have := Int.ediv_neg_of_neg_of_pos hn hp; omega
    · exact hn
  exact ⟨putE_ok h0 (by omega) (by rw [h2]; omega), by rw [putL_ok h0 (by omega) (by rw [h2]; omega)]; exact h1⟩
theorem getR_len {l : List Int} (h : (getR l).2 = 0) : ¬ 18 < l.length := fun k => by rw [getR_long k] at h; simp at h

/-- Joined, and split. -/
theorem join_split : ∀ (vs ws acc acc2 : List Int) (s : Int), vs.length = ws.length → (joinGo vs ws acc).2 = 0 →
    ∃ b, joinGo vs ws acc = (acc ++ b, 0) ∧ sumGo ws s = some (s + b.length) ∧ splitGo b ws acc2 = (acc2 ++ vs, 0)
  | [], [], acc, acc2, s, _, _ => ⟨[], by simp [joinGo], by simp [sumGo], by simp [splitGo]⟩
  | [], _ :: _, _, _, _, h, _ => by simp at h
  | _ :: _, [], _, _, _, h, _ => by simp at h
  | v :: vs, x :: ws, acc, acc2, s, hl, h => by
    rw [joinGo_cons] at h ⊢
    by_cases hp : putE v x = 0
    · rw [if_neg (by simp [hp])] at h ⊢
      obtain ⟨hg, hx⟩ := put_get hp
      obtain ⟨k, rfl, hk, _, _, _⟩ := put_ok hp
      obtain ⟨b, e1, e2, e3⟩ := join_split vs ws (acc ++ putL v k) (acc2 ++ [v]) (s + k) (by simpa using hl) h
      have hlen : (putL v k).length = k := by omega
      refine ⟨putL v k ++ b, by rw [e1, List.append_assoc], ?_, ?_⟩
      · rw [sumGo_cons, if_neg (by omega), e2]; congr 1; rw [List.length_append]; omega
      · rw [splitGo_cons, Int.toNat_natCast, List.take_append_of_le_length (by omega), List.take_of_length_le (by omega), hg, if_neg (by simp), List.drop_append_of_le_length (by omega), List.drop_of_length_le (by omega), List.nil_append, e3, List.append_assoc]; rfl
    · rw [if_pos hp] at h; exact absurd h hp
theorem splitR_join {vs ws : List Int} (h : (joinR vs ws).2 = 0) : splitR (joinR vs ws).1 ws = (vs, 0) := by
  by_cases ha : vs.length ≠ ws.length ∨ 20 < vs.length
  · rw [joinR_arg ha] at h; simp at h
  · rw [joinR_go (by omega) (by omega)] at h ⊢
    obtain ⟨b, e1, e2, e3⟩ := join_split vs ws [] [] 0 (by omega) h
    rw [e1, splitR_go (by omega) e2 (by simp)]
    simpa using e3

/-- Split, and joined. -/
theorem split_join : ∀ (ws l acc acc2 : List Int) (s : Int), (∀ x ∈ l, 0 ≤ x ∧ x < 256) → sumGo ws s = some (s + l.length) → (splitGo l ws acc).2 = 0 →
    ∃ vs, splitGo l ws acc = (acc ++ vs, 0) ∧ vs.length = ws.length ∧ joinGo vs ws acc2 = (acc2 ++ l, 0)
  | [], l, acc, acc2, s, hb, hs, h => by
    simp only [sumGo, Option.some.injEq] at hs
    obtain rfl : l = [] := List.length_eq_zero_iff.1 (by omega)
    exact ⟨[], by simp [splitGo], rfl, by simp [joinGo]⟩
  | x :: ws, l, acc, acc2, s, hb, hs, h => by
    rw [sumGo_cons] at hs
    split at hs
    · cases hs
    · rename_i hx
      obtain ⟨k, rfl⟩ := Int.eq_ofNat_of_zero_le (show 0 ≤ x by omega)
      have hle := sumGo_le _ _ _ hs
      rw [splitGo_cons, Int.toNat_natCast] at h ⊢
      by_cases hg : (getR (l.take k)).2 = 0
      · rw [if_neg (by simp [hg])] at h ⊢
        obtain ⟨p1, p2⟩ := get_put (fun z hz => hb z (List.mem_of_mem_take hz)) hg (getR_len hg)
        have hlk : (l.take k).length = k := by rw [List.length_take]; omega
        rw [hlk] at p1 p2
        obtain ⟨vs, e1, e2, e3⟩ := split_join ws (l.drop k) (acc ++ [(getR (l.take k)).1]) (acc2 ++ l.take k) (s + k) (fun z hz => hb z (List.mem_of_mem_drop hz)) (by rw [hs]; congr 1; rw [List.length_drop]; omega) h
        refine ⟨(getR (l.take k)).1 :: vs, by rw [e1, List.append_assoc]; rfl, by simp [e2], ?_⟩
        rw [joinGo_cons, if_neg (by simp [p1]), p2, e3, List.append_assoc, List.take_append_drop]
      · rw [if_pos hg] at h; exact absurd h hg
theorem joinR_split {l ws : List Int} (hb : ∀ x ∈ l, 0 ≤ x ∧ x < 256) (h : (splitR l ws).2 = 0) : joinR (splitR l ws).1 ws = (l, 0) := by
  by_cases h20 : 20 < ws.length
  · rw [splitR_many h20] at h; simp at h
  cases hs : sumGo ws 0 with
  | none => rw [splitR_bad h20 hs] at h; simp at h
  | some s =>
    by_cases hn : s = l.length
    · rw [splitR_go h20 hs hn] at h ⊢
      obtain ⟨vs, e1, e2, e3⟩ := split_join ws l [] [] 0 hb (by rw [hs, hn]; simp) h
      rw [e1, List.nil_append, joinR_go e2 (by omega), e3]; rfl
    · rw [splitR_len h20 hs hn] at h; simp at h
theorem splitGo_fail : ∀ (ws l acc : List Int), (splitGo l ws acc).2 ≠ 0 → (splitGo l ws acc).1 = []
  | [], l, acc, h => by simp [splitGo] at h
  | x :: ws, l, acc, h => by
    rw [splitGo_cons] at h ⊢
    split
    · rfl
    · rename_i hg
      rw [if_neg hg] at h
      exact splitGo_fail ws _ _ h
theorem splitR_fail {l ws : List Int} (h : (splitR l ws).2 ≠ 0) : (splitR l ws).1 = [] := by
  unfold splitR at h ⊢
  split
  · rfl
  · rename_i h20
    rw [if_neg h20] at h
    split
    · rfl
    · rename_i s hs
      rw [hs] at h
      simp only at h
      split
      · rfl
      · rename_i hn
        rw [if_neg hn] at h
        exact splitGo_fail _ _ _ h

/-- The first place at which two rows differ: whether the left one is the lesser. -/
def cmpL : List Int → List Int → Option Bool
  | x :: l, y :: m => if x = y then cmpL l m else some (decide (x < y))
  | _, _ => none
theorem cmpL_cons (x y : Int) (l m : List Int) : cmpL (x :: l) (y :: m) = if x = y then cmpL l m else some (decide (x < y)) := rfl
theorem cmpL_nil (m : List Int) : cmpL [] m = none := by cases m <;> rfl
theorem cmp_dg : ∀ (w : Nat) (m n : Int), cmpL (dg w m) (dg w n) = if m % 10 ^ w = n % 10 ^ w then none else some (decide (m % 10 ^ w < n % 10 ^ w))
  | 0, m, n => by simp [dg, cmpL, Int.emod_one]
  | w + 1, m, n => by
    rw [dg_succ, dg_succ, cmpL_cons, cmp_dg w m n, mod_pow_succ m w, mod_pow_succ n w]
    have hp := pow_pos10 w
    have a1 := Int.emod_nonneg m (show (10 : Int) ^ w ≠ 0 by omega)
    have a2 := Int.emod_lt_of_pos m hp
    have b1 := Int.emod_nonneg n (show (10 : Int) ^ w ≠ 0 by omega)
    have b2 := Int.emod_lt_of_pos n hp
    generalize m / 10 ^ w % 10 = x
    generalize n / 10 ^ w % 10 = y
    generalize m % 10 ^ w = u at *
    generalize n % 10 ^ w = v at *
    generalize (10 : Int) ^ w = p at *
    by_cases hxy : x = y
    · subst hxy
      rw [if_pos rfl]
      generalize x * p = z
      by_cases huv : u = v
      · rw [if_pos huv, if_pos (by omega)]
      · rw [if_neg huv, if_neg (by omega)]
        congr 1
        exact decide_eq_decide.2 (by omega)
    · rw [if_neg hxy]
      have key : (x < y → x * p + u < y * p + v) ∧ (y < x → y * p + v < x * p + u) := by
        refine ⟨fun h => ?_, fun h => ?_⟩
        · have := Int.mul_le_mul_of_nonneg_right (show x + 1 ≤ y by omega) (show 0 ≤ p by omega)
          rw [Int.add_mul] at this; omega
        · have := Int.mul_le_mul_of_nonneg_right (show y + 1 ≤ x by omega) (show 0 ≤ p by omega)
          rw [Int.add_mul] at this; omega
      rw [if_neg (by omega)]
      congr 1
      exact decide_eq_decide.2 (by omega)
theorem cmp_put {m n wd : Int} (h : putE m wd = 0) (k : putE n wd = 0) : cmpL (putL m wd) (putL n wd) = if m = n then none else some (decide (m < n)) := by
  obtain ⟨i, rfl, _, h0, h1, e⟩ := put_ok h
  obtain ⟨j, hj, _, k0, k1, e'⟩ := put_ok k
  obtain rfl : i = j := by omega
  rw [e, e', cmp_dg, Int.emod_eq_of_lt h0 h1, Int.emod_eq_of_lt k0 k1]
end Go.Proofs.YtnbghgenaolfgaaGreat

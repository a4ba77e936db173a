/- Versions that two devices know: the plain laws, over lists of numbers alone. Two rows of numbers, held against each other: the references' Same tells whether they are equal. Is a list one of versions: what nego.Is, its rises, and the reference's Is tell of every list. Is a number in a list: slices.Index, slices.Contains at []int, and the reference's has. Digits, split into numbers: what bcd.Split's reference computes, for all digits and widths. No condition. -/
import Derived.Test.YtachkhjbckapoaaT08
import Derived.Test.YtachkhjbckapoaaT00
import Derived.LoopTactic
import Derived.IntWalk
import Derived.Deep.QuietTactic
import Derived.BigQuiet
import Derived.Test.YtachkhjbckapoaaT04
import Derived.Test.YtachkhjbckapoaaT05
namespace Go.Proofs.Ytachkhjbckapoaa
set_option linter.unusedVariables false
set_option maxRecDepth 100000
set_option linter.unusedSimpArgs false

/-- Is a number in a list? -/
def hasB (l : List Int) (v : Int) : Bool := l.contains v
theorem hasB_cons (x v : Int) (l : List Int) : hasB (x :: l) v = (v == x || hasB l v) := by unfold hasB; rw [List.contains_cons]
theorem hasB_nil (v : Int) : hasB [] v = false := rfl
/-- Does a list rise, from 1 to 3, all above what came before? -/
def riseGo : Int → List Int → Bool
  | _, [] => true
  | p, x :: l => if x < 1 ∨ 3 < x ∨ x ≤ p then false else riseGo x l
def isB (l : List Int) : Bool := riseGo 0 l
theorem riseGo_cons (p x : Int) (l : List Int) : riseGo p (x :: l) = if x < 1 ∨ 3 < x ∨ x ≤ p then false else riseGo x l := rfl
def shapes : List (List Int) := [[], [1], [2], [3], [1, 2], [1, 3], [2, 3], [1, 2, 3]]
theorem rise3 {l : List Int} (h : riseGo 3 l = true) : l = [] := by
  cases l with
  | nil => rfl
  | cons x l => rw [riseGo_cons] at h; split at h <;> (try omega); simp at h
theorem rise2 {l : List Int} (h : riseGo 2 l = true) : l = [] ∨ l = [3] := by
  cases l with
  | nil => exact .inl rfl
  | cons x l =>
    rw [riseGo_cons] at h
    split at h
    · simp at h
    · obtain rfl : x = 3 := by omega
      rw [rise3 h]; exact .inr rfl
theorem rise1 {l : List Int} (h : riseGo 1 l = true) : l = [] ∨ l = [2] ∨ l = [3] ∨ l = [2, 3] := by
  cases l with
  | nil => exact .inl rfl
  | cons x l =>
    rw [riseGo_cons] at h
    split at h
    · simp at h
    · rcases (show x = 2 ∨ x = 3 by omega) with rfl | rfl
      · rcases rise2 h with rfl | rfl <;> simp
      · rw [rise3 h]; simp
theorem isB_shapes {l : List Int} (h : isB l = true) : l ∈ shapes := by
  unfold isB at h
  cases l with
  | nil => simp [shapes]
  | cons x l =>
    rw [riseGo_cons] at h
    split at h
    · simp at h
    · rcases (show x = 1 ∨ x = 2 ∨ x = 3 by omega) with rfl | rfl | rfl
      · rcases rise1 h with rfl | rfl | rfl | rfl <;> simp [shapes]
      · rcases rise2 h with rfl | rfl <;> simp [shapes]
      · rw [rise3 h]; simp [shapes]
theorem isB_len {l : List Int} (h : isB l = true) : l.length ≤ 3 := by
  have : ∀ l ∈ shapes, l.length ≤ 3 := by decide
  exact this l (isB_shapes h)

/-- The versions that two lists have in common. -/
def comL (a b : List Int) : List Int := if isB a = true ∧ isB b = true then [1, 2, 3].filter (fun v => hasB a v && hasB b v) else []
def comE (a b : List Int) : Int := if isB a = true ∧ isB b = true then 0 else 1
theorem comL_ok {a b : List Int} (h : isB a = true) (k : isB b = true) : comL a b = [1, 2, 3].filter (fun v => hasB a v && hasB b v) := by unfold comL; rw [if_pos ⟨h, k⟩]
theorem comE_ok {a b : List Int} (h : isB a = true) (k : isB b = true) : comE a b = 0 := by unfold comE; rw [if_pos ⟨h, k⟩]
theorem comL_no {a b : List Int} (h : isB a = false ∨ isB b = false) : comL a b = [] := by unfold comL; rw [if_neg (by rintro ⟨x, y⟩; rcases h with h | h <;> simp_all)]
theorem comE_no {a b : List Int} (h : isB a = false ∨ isB b = false) : comE a b = 1 := by unfold comE; rw [if_neg (by rintro ⟨x, y⟩; rcases h with h | h <;> simp_all)]
theorem comL_both {a b : List Int} (h : isB a = true) (k : isB b = true) : comL a b = a.filter (fun v => hasB b v) := by
  rw [comL_ok h k]
  have : ∀ a ∈ shapes, ∀ b ∈ shapes, [1, 2, 3].filter (fun v => hasB a v && hasB b v) = a.filter (fun v => hasB b v) := by decide
  exact this a (isB_shapes h) b (isB_shapes k)
theorem comL_comm (a b : List Int) : comL a b = comL b a := by
  unfold comL
  by_cases h : isB a = true ∧ isB b = true
  · rw [if_pos h, if_pos ⟨h.2, h.1⟩]; congr 1; funext v; exact Bool.and_comm _ _
  · rw [if_neg h, if_neg (fun k => h ⟨k.2, k.1⟩)]
theorem comE_comm (a b : List Int) : comE a b = comE b a := by unfold comE; simp only [and_comm]
theorem comL_len (a b : List Int) : (comL a b).length ≤ 3 := by
  unfold comL; split
  · exact List.length_filter_le _ _
  · simp
def pickV (a b : List Int) : Int := (comL a b).getD ((comL a b).length - 1) 0
def pickE (a b : List Int) : Int := if comE a b ≠ 0 then comE a b else if comL a b = [] then 12 else 0
def forV (T : Bool) (a5 a6 : Int) (a b : List Int) : Int := if T = true ∧ pickE a b = 0 ∧ verN a5 a6 ≤ pickV a b then pickV a b else 0
def forE (T : Bool) (a5 a6 : Int) (a b : List Int) : Int := if T = false then 1 else if pickE a b ≠ 0 then pickE a b else if verN a5 a6 ≤ pickV a b then 0 else 18
theorem pickV_le (a b : List Int) : pickV a b ≤ 3 := by
  unfold pickV
  by_cases h : isB a = true ∧ isB b = true
  · have : ∀ a ∈ shapes, ∀ b ∈ shapes, (([1, 2, 3].filter (fun v => hasB a v && hasB b v)).getD (([1, 2, 3].filter (fun v => hasB a v && hasB b v)).length - 1) 0 : Int) ≤ 3 := by decide
    rw [comL_ok h.1 h.2]; exact this a (isB_shapes h.1) b (isB_shapes h.2)
  · unfold comL; rw [if_neg h]; decide
theorem pickE_comm (a b : List Int) : pickE a b = pickE b a := by unfold pickE; rw [comL_comm, comE_comm]
theorem pickV_comm (a b : List Int) : pickV a b = pickV b a := by unfold pickV; rw [comL_comm]
theorem pickV_zero {a b : List Int} (h : pickE a b ≠ 0) : pickV a b = 0 := by
  unfold pickE at h
  by_cases h2 : comE a b ≠ 0
  · have : ¬ (isB a = true ∧ isB b = true) := fun k => h2 (comE_ok k.1 k.2)
    unfold pickV comL; rw [if_neg this]; rfl
  · rw [if_neg h2] at h
    have : comL a b = [] := by
      by_cases e : comL a b = []
      · exact e
      · rw [if_neg e] at h; exact absurd rfl h
    unfold pickV; rw [this]; rfl
theorem pick_ok {a b : List Int} (h : pickE a b = 0) : isB a = true ∧ isB b = true ∧ comL a b ≠ [] := by
  unfold pickE at h
  by_cases k : isB a = true ∧ isB b = true
  · refine ⟨k.1, k.2, fun e => ?_⟩
    rw [comE_ok k.1 k.2, if_neg (by simp), if_pos e] at h; omega
  · have : comE a b = 1 := by unfold comE; rw [if_neg k]
    rw [this, if_pos (by omega)] at h; omega
theorem isB_com {a b : List Int} : isB (comL a b) = true := by
  by_cases k : isB a = true ∧ isB b = true
  · have : ∀ a ∈ shapes, ∀ b ∈ shapes, isB ([1, 2, 3].filter (fun v => hasB a v && hasB b v)) = true := by decide
    rw [comL_ok k.1 k.2]; exact this a (isB_shapes k.1) b (isB_shapes k.2)
  · unfold comL; rw [if_neg k]; rfl

/-- A list with one version more put in; none: it is there. -/
def moreGo (m : Int) : List Int → List Int → Bool → Option (List Int)
  | [], c, put => some (if put = true then c else c ++ [m])
  | x :: l, c, put => if x = m then none else if m < x ∧ put = false then moreGo m l (c ++ [m] ++ [x]) true else moreGo m l (c ++ [x]) put
theorem moreGo_cons (m x : Int) (l c : List Int) (put : Bool) : moreGo m (x :: l) c put = if x = m then none else if m < x ∧ put = false then moreGo m l (c ++ [m] ++ [x]) true else moreGo m l (c ++ [x]) put := rfl
theorem more_in {a b c : List Int} {m : Int} (h : pickE a b = 0) (hm : moreGo m a [] false = some c) (h1 : 1 ≤ m) (h3 : m ≤ 3) : pickE c b = 0 ∧ pickV a b ≤ pickV c b := by
  obtain ⟨ha, hb, _⟩ := pick_ok h
  have : ∀ a ∈ shapes, ∀ b ∈ shapes, ∀ m ∈ [(1 : Int), 2, 3], pickE a b = 0 → ∀ c ∈ moreGo m a [] false, pickE c b = 0 ∧ pickV a b ≤ pickV c b := by decide
  exact this a (isB_shapes ha) b (isB_shapes hb) m (by simp; omega) h c hm
theorem more_out {a b c : List Int} {m : Int} (h : pickE a b = 0) (hm : moreGo m a [] false = some c) (hx : m < 1 ∨ 3 < m) : pickE c b = 1 := by
  obtain ⟨ha, hb, _⟩ := pick_ok h
  have hs := isB_shapes ha
  have key : isB c = false := by
    simp only [shapes, List.mem_cons, List.not_mem_nil, or_false] at hs
    rcases hx with hx | hx
    · rcases hs with rfl | rfl | rfl | rfl | rfl | rfl | rfl | rfl <;> simp [moreGo, show m < 1 from hx, show m < 2 by omega, show m < 3 by omega, show ¬ 1 = m by omega, show ¬ 2 = m by omega, show ¬ 3 = m by omega] at hm <;> subst hm <;> simp [isB, riseGo, hx]
    · rcases hs with rfl | rfl | rfl | rfl | rfl | rfl | rfl | rfl <;> simp [moreGo, show ¬ m < 1 by omega, show ¬ m < 2 by omega, show ¬ m < 3 by omega, show ¬ 1 = m by omega, show ¬ 2 = m by omega, show ¬ 3 = m by omega] at hm <;> subst hm <;> simp [isB, riseGo, hx]
  unfold pickE
  rw [comE_no (.inl key)]; simp
theorem more_len {m : Int} : ∀ (l c : List Int) (p : Bool) (r : List Int), moreGo m l c p = some r → r.length ≤ c.length + 2 * l.length + 1
  | [], c, p, r, h => by simp only [moreGo, Option.some.injEq] at h; subst h; split <;> simp
  | x :: l, c, p, r, h => by
    rw [moreGo_cons] at h
    split at h
    · cases h
    · split at h
      · have := more_len l _ _ r h; simp at this ⊢; omega
      · have := more_len l _ _ r h; simp at this ⊢; omega
end Go.Proofs.Ytachkhjbckapoaa

namespace Go.Proofs.Ytachkhjbckapoaa
open Go.RowKit
set_option linter.unusedVariables false
set_option maxRecDepth 100000
set_option linter.unusedSimpArgs false

def SameRet (l m : List Int) (w : World) (e : Ending) (w' : World) : Prop := e = .returned (.bool (l == m)) ∧ ∃ n, w' = w.drewN n

set_option maxHeartbeats 2000000 in
theorem same01_any (A B : Option Addr) (c d : Nat) (l m : List Int) (w : World) (hr : RdI w .u8 A l) (hs : RdI w .u8 B m) (hl : l.length ≤ 9223372036854775807) (hm : m.length ≤ 9223372036854775807) :
    Calls Try.prog 12 #[.slice A l.length c, .slice B m.length d] w (SameRet l m w) := by
  by_cases hlen : l.length = m.length
  · have hd : ((l.length : Int) != (m.length : Int)) = false := by simp only [bne_eq_false_iff_eq]; omega
    have HL := Lib.hid hlen
    have hle : l.length ≤ m.length := by omega
    clear hlen
    go_enter Try.func12, Try.ntmps12
    go_wp2
    go_loopw [5] (fun i wr => ∃ k n : Nat, k ≤ l.length ∧ i = .int .i64 k ∧ wr = w.drewN n ∧ Hid ((l.drop k == m.drop k) = (l == m))) (fun i _ => l.length - (intOf i).toNat)
    case atStart => exact ⟨0, 0, Nat.zero_le _, rfl, rfl, Lib.hid (by simp)⟩
    case round =>
      obtain ⟨k, n, hk, rfl, rfl, hg⟩ := hrel
      by_cases hlt : k < l.length
      · have hlt2 : k < m.length := by omega
        obtain ⟨ad, rfl, hc⟩ := hr.at_ hlt
        obtain ⟨bd, rfl, hc2⟩ := hs.at_ hlt2
        have e := hg.out
        rw [drop_cons hlt, drop_cons hlt2] at e
        have He := Lib.hid e
        clear e hg
        generalize l.getD k 0 = x at *
        generalize m.getD k 0 = y at *
        by_cases hxy : x = y
        · have hdx : (x != y) = false := by simpa using hxy
          have e := He.out
          have e2 : (l.drop (k + 1) == m.drop (k + 1)) = (l == m) := by rw [← e, hxy]; simp
          have He2 := Lib.hid e2
          clear e e2 He hxy
          go_wp2
          go_quiet (fail)
          go_wp2
          go_roundw
          case rel => exact ⟨k + 1, _, by omega, by go_num, rfl, He2⟩
          case measure => simp [intOf]; omega
        · have hdx : (x != y) = true := by simpa using hxy
          have e := He.out
          have e2 : (l == m) = false := by rw [← e]; simp [hxy]
          have He2 := Lib.hid e2
          clear e e2 He hxy
          go_wp2
          go_quiet (fail)
          go_wp2
          go_ret
          exact ⟨by rw [He2.out] <;> rfl, _, World.drewN_drewN _ _ _⟩
      · have e := hg.out
        rw [List.drop_eq_nil_of_le (show l.length ≤ k by omega), List.drop_eq_nil_of_le (show m.length ≤ k by have := HL.out; omega)] at e
        have He := Lib.hid e
        clear e hg
        go_wp2
        go_ret
        exact ⟨by rw [← He.out] <;> rfl, _, rfl⟩
  · have hd : ((l.length : Int) != (m.length : Int)) = true := by simp only [bne_iff_ne, ne_eq]; omega
    have e : (l == m) = false := by
      cases h : (l == m) with
      | false => rfl
      | true => exact absurd (congrArg List.length (by simpa using h)) hlen
    have He := Lib.hid e
    clear e hlen
    go_enter Try.func12, Try.ntmps12
    go_wp2
    go_ret
    exact ⟨by rw [He.out] <;> rfl, 0, rfl⟩


end Go.Proofs.Ytachkhjbckapoaa

namespace Go.Proofs.Ytachkhjbckapoaa
open Go.RowKit
set_option linter.unusedVariables false
set_option maxRecDepth 100000
set_option linter.unusedSimpArgs false

def IsRet (l : List Int) (w : World) (e : Ending) (w' : World) : Prop := e = .returned (.bool (isB l)) ∧ ∃ n, w' = w.drewN n

end Go.Proofs.Ytachkhjbckapoaa

namespace Go.Proofs.Ytachkhjbckapoaa
open Go.RowKit
set_option linter.unusedVariables false
set_option maxRecDepth 100000
set_option linter.unusedSimpArgs false

def idxGo (v : Int) : Int → List Int → Int
  | _, [] => -1
  | k, x :: l => if v = x then k else idxGo v (k + 1) l
theorem idxGo_cons (v k x : Int) (l : List Int) : idxGo v k (x :: l) = if v = x then k else idxGo v (k + 1) l := rfl
theorem idx_has (v : Int) : ∀ (l : List Int) (k : Int), 0 ≤ k → decide (0 ≤ idxGo v k l) = hasB l v
  | [], k, h => by simp [idxGo, hasB]
  | x :: l, k, h => by
    rw [idxGo_cons]
    by_cases e : v = x
    · rw [if_pos e, hasB_cons]; simp [e, h]
    · rw [if_neg e, idx_has v l (k + 1) (by omega)]
      rw [hasB_cons, beq_eq_false_iff_ne.mpr e]; simp

/-- What a list of numbers that a call hands back is. -/
def ListRet (r : List Int) (e2 : Option Int) (w : World) (e : Ending) (w' : World) : Prop :=
  ∃ v, e = .returned (match e2 with | none => v | some x => .tuple #[v, .int .i64 x]) ∧ w'.ownsRow w.heap.size 3 1 v r.length (r.map (.int .i64)) ∧ Below w.heap.size w w'

theorem filter_snoc (l : List Int) (b : List Int) {k : Nat} (h : k < l.length) : (l.take (k + 1)).filter (fun v => hasB b v) = (l.take k).filter (fun v => hasB b v) ++ if hasB b (l.getD k 0) = true then [l.getD k 0] else [] := by
  rw [List.take_succ_eq_append_getElem h, List.filter_append]
  have e : l.getD k 0 = l[k] := by simp [h]
  rw [e, List.filter_cons, List.filter_nil]

end Go.Proofs.Ytachkhjbckapoaa

namespace Go.Proofs.Ytachkhjbckapoaa
open Go.RowKit
set_option linter.unusedVariables false
set_option maxRecDepth 100000
set_option linter.unusedSimpArgs false

/-- The widths' sum; none: one is wrong. -/
def sumGo : List Int → Int → Option Int
  | [], s => some s
  | x :: l, s => if x < 0 ∨ 18 < x then none else sumGo l (s + x)
theorem sumGo_cons (x s : Int) (l : List Int) : sumGo (x :: l) s = if x < 0 ∨ 18 < x then none else sumGo l (s + x) := rfl
theorem sumGo_le : ∀ (l : List Int) (s r : Int), sumGo l s = some r → s ≤ r
  | [], s, r, h => by simp only [sumGo, Option.some.injEq] at h; omega
  | x :: l, s, r, h => by
    rw [sumGo_cons] at h
    split at h
    · cases h
    · have := sumGo_le l _ r h; omega
def splitGo : List Int → List Int → List Int → List Int × Int
  | _, [], acc => (acc, 0)
  | l, x :: ws, acc => if (getR (l.take x.toNat)).2 ≠ 0 then ([], (getR (l.take x.toNat)).2) else splitGo (l.drop x.toNat) ws (acc ++ [(getR (l.take x.toNat)).1])
theorem splitGo_cons (l : List Int) (x : Int) (ws acc : List Int) : splitGo l (x :: ws) acc = if (getR (l.take x.toNat)).2 ≠ 0 then ([], (getR (l.take x.toNat)).2) else splitGo (l.drop x.toNat) ws (acc ++ [(getR (l.take x.toNat)).1]) := rfl
def splitR (l ws : List Int) : List Int × Int :=
  if 20 < ws.length then ([], 1) else match sumGo ws 0 with | none => ([], 1) | some s => if s ≠ l.length then ([], 14) else splitGo l ws []
theorem splitR_many {l ws : List Int} (h : 20 < ws.length) : splitR l ws = ([], 1) := by unfold splitR; rw [if_pos h]
theorem splitR_bad {l ws : List Int} (h : ¬ 20 < ws.length) (k : sumGo ws 0 = none) : splitR l ws = ([], 1) := by unfold splitR; rw [if_neg h, k]
theorem splitR_len {l ws : List Int} {s : Int} (h : ¬ 20 < ws.length) (k : sumGo ws 0 = some s) (n : s ≠ l.length) : splitR l ws = ([], 14) := by unfold splitR; rw [if_neg h, k]; simp only [if_pos n]
theorem splitR_go {l ws : List Int} {s : Int} (h : ¬ 20 < ws.length) (k : sumGo ws 0 = some s) (n : s = l.length) : splitR l ws = splitGo l ws [] := by unfold splitR; rw [if_neg h, k]; simp only [n, ne_eq, not_true_eq_false, if_false]

theorem RdI.cut {w : World} {k : IntKind} {A : Option Addr} {l : List Int} {c : Nat} (h : RdI w k A l) (t : Nat) (hc : l.length ≤ c) : RdI w k (if c = t then A else A.map (·.add t)) (l.drop t) := by
  rcases h with rfl | ⟨ad, rfl, hlt, hcell⟩
  · left; simp
  · by_cases ht : l.length ≤ t
    · left; exact List.drop_eq_nil_of_le ht
    · right
      rw [if_neg (by omega)]
      refine ⟨ad.add t, rfl, by rw [add_block]; exact hlt, fun j hj => ?_⟩
      rw [List.length_drop] at hj
      rw [add_add, hcell (t + j) (by omega)]
      congr 2
      rw [List.getD_eq_getElem?_getD, List.getD_eq_getElem?_getD, List.getElem?_drop]
theorem RdI.take {w : World} {k : IntKind} {A : Option Addr} {l : List Int} (h : RdI w k A l) (t : Nat) : RdI w k A (l.take t) := by
  rcases h with rfl | ⟨ad, rfl, hlt, hcell⟩
  · left; simp
  · right
    refine ⟨ad, rfl, hlt, fun j hj => ?_⟩
    rw [List.length_take] at hj
    rw [hcell j (by omega)]
    congr 2
    rw [List.getD_eq_getElem?_getD, List.getD_eq_getElem?_getD, List.getElem?_take, if_pos (by omega)]

theorem RdI.at1 {w : World} {k : IntKind} {ad : Addr} {l : List Int} {j : Nat} {x : Int} (h : RdI w k (some ad) l) (hj : j < l.length) (hx : l.getD j 0 = x) : w.cell? (ad.add j) = some (.int k x) := by
  obtain ⟨ad', e, hc⟩ := h.at_ hj
  obtain rfl := Option.some.inj e
  rw [hc, hx]
theorem bcdGet_len (A : Option Addr) (c n : Nat) (l : List Int) (w : World) (hn : l.length = n) (hr : RdI w .u8 A l) (hb : ∀ x ∈ l, 0 ≤ x ∧ x < 256) :
    Calls Try.prog 138 #[.slice A n c] w fun e w' => e = .returned (.tuple #[.int .i64 (getR l).1, .int .i64 (getR l).2]) ∧ w = w' := by subst hn; exact bcdGet_any A c l w hr hb

end Go.Proofs.Ytachkhjbckapoaa

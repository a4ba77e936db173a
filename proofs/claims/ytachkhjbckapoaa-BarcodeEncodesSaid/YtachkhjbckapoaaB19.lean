/- Layer 18, plain: a reading as fifteen numbers, as fields, and back. Layer 5: keys and rings of them: what they are, what ring.right tells. Layer 5: what ring.Is tells, for all keys. Layer 5: what ring.place and ring.Find tell, for all keys. Layer 19, plain: what a barcode says as bytes, and what bytes say. No condition. -/
import Derived.Test.YtachkhjbckapoaaB18
import Derived.Test.YtachkhjbckapoaaB06
import Derived.Test.YtachkhjbckapoaaB00
import Derived.Test.YtachkhjbckapoaaB13
import Derived.Deep.RegionHeld3
import Derived.Test.YtachkhjbckapoaaB01
import Derived.Test.YtachkhjbckapoaaB05
import Derived.Test.YtachkhjbckapoaaB12
namespace Go.Proofs.Ytachkhjbckapoaa
open Go.RowKit
set_option linter.unusedVariables false
set_option maxRecDepth 100000
set_option linter.unusedSimpArgs false

def plcL : List Nat := [0, 14, 11, 1, 0, 2, 3, 4, 5, 6, 7, 8, 9, 10]
/-- Where the number of a tag stands. -/
def plc (tag : Int) : Nat := plcL.getD tag.toNat 0
def tkL (l : List Int) : Bool := tkB (l.getD 0 0) (l.getD 1 0) (l.getD 2 0) (l.getD 3 0) (l.getD 4 0) (l.getD 5 0) (l.getD 6 0) (l.getD 7 0) (l.getD 8 0) (l.getD 9 0) (l.getD 10 0)
def readB (l : List Int) : Bool := tkL l && (decide (0 ≤ l.getD 11 0) && decide (l.getD 11 0 < 100)) && (decide (l.getD 12 0 = 0) && decide (l.getD 13 0 = 0)) && (decide (1 ≤ l.getD 14 0) && decide (l.getD 14 0 ≤ 3))
def fpGo (l : List Int) : Nat → List Fd → List Fd × Int
  | 0, acc => (acc, 0)
  | n + 1, acc => if l.getD (plc (13 - n)) 0 = 0 then fpGo l n acc
    else if n = 1 ∧ l.getD 1 0 ≠ 4 then fpGo l n acc
    else if l.getD 14 0 < nameE (13 - n) then ([], 18)
    else fpGo l n (acc ++ [⟨13 - n, numL (l.getD (plc (13 - n)) 0)⟩])
/-- What fields.Put computes. -/
def fpE (l : List Int) : List Fd × Int := if readB l then fpGo l 13 [] else ([], 1)
theorem fpGo_succ (l : List Int) (n : Nat) (acc : List Fd) : fpGo l (n + 1) acc = if l.getD (plc (13 - n)) 0 = 0 then fpGo l n acc
    else if n = 1 ∧ l.getD 1 0 ≠ 4 then fpGo l n acc
    else if l.getD 14 0 < nameE (13 - n) then ([], 18)
    else fpGo l n (acc ++ [⟨13 - n, numL (l.getD (plc (13 - n)) 0)⟩]) := rfl

def zL : List Int := List.replicate 15 0
def fgGo : List Fd → List Int → Int → List Int × Int × Int
  | [], l, least => (l, least, 0)
  | f :: t, l, least => if 128 ≤ f.tag then (l, least, 16) else if nameB f.tag = false then (l, least, 15)
    else if (valE f.val).2 ≠ 0 then (l, least, (valE f.val).2) else fgGo t (l.set (plc f.tag) (valE f.val).1) (max least (nameE f.tag))
/-- What fields.Get says of the numbers that it has read. -/
def fgEnd (l : List Int) (least : Int) : List Int × Int :=
  if l.getD 14 0 < least ∨ 3 < l.getD 14 0 then (zL, 12)
  else if l.getD 1 0 = 4 then (if 100 ≤ l.getD 11 0 ∨ tkL l = false then (zL, 9) else (l, 0))
  else if l.getD 9 0 ≠ 0 then (zL, 9)
  else if 100 ≤ l.getD 11 0 ∨ tkL (l.set 9 (l.getD 1 0 % 3)) = false then (zL, 9) else (l.set 9 (l.getD 1 0 % 3), 0)
/-- What fields.Get computes. -/
def fgE (q : List Fd) : List Int × Int :=
  if tlvB 0 q then (if (fgGo q zL 1).2.2 ≠ 0 then (zL, (fgGo q zL 1).2.2) else fgEnd (fgGo q zL 1).1 (fgGo q zL 1).2.1) else (zL, 1)
theorem fgGo_cons (f : Fd) (t : List Fd) (l : List Int) (least : Int) : fgGo (f :: t) l least = if 128 ≤ f.tag then (l, least, 16) else if nameB f.tag = false then (l, least, 15)
    else if (valE f.val).2 ≠ 0 then (l, least, (valE f.val).2) else fgGo t (l.set (plc f.tag) (valE f.val).1) (max least (nameE f.tag)) := rfl

-- ---- numbers, and their least bytes
theorem strip_len : ∀ l : List Int, (strip l).length ≤ l.length
  | [] => Nat.le_refl _
  | x :: t => by
    rw [strip_cons]
    by_cases h : x = 0
    · rw [if_pos h]; have := strip_len t; simp; omega
    · rw [if_neg h]; exact Nat.le_refl _
theorem strip_head : ∀ l : List Int, (strip l).length ≠ 0 → (strip l).getD 0 0 ≠ 0
  | [], h => by simp [strip] at h
  | x :: t, h => by
    rw [strip_cons] at h ⊢
    by_cases g : x = 0
    · rw [if_pos g] at h ⊢; exact strip_head t h
    · rw [if_neg g]; simpa using g
theorem strip_mem : ∀ (l : List Int) (x : Int), x ∈ strip l → x ∈ l
  | [], x, h => by simp [strip] at h
  | y :: t, x, h => by
    rw [strip_cons] at h
    by_cases g : y = 0
    · rw [if_pos g] at h; exact List.mem_cons_of_mem _ (strip_mem t x h)
    · rw [if_neg g] at h; exact h
theorem valN_strip : ∀ l : List Int, valN (strip l) 0 = valN l 0
  | [] => rfl
  | x :: t => by
    rw [strip_cons]
    by_cases h : x = 0
    · rw [if_pos h, valN_strip t, h, valN_cons]; rfl
    · rw [if_neg h]
theorem strip_zeros (l : List Int) (h : l.getD 0 0 ≠ 0) : ∀ k, strip (List.replicate k 0 ++ l) = l
  | 0 => by
    cases l with
    | nil => simp at h
    | cons x t => simp at h; simp [strip_cons, h]
  | k + 1 => by rw [List.replicate_succ, List.cons_append, strip_cons, if_pos rfl]; exact strip_zeros l h k
theorem valN_dg8 {n : Int} (h0 : 0 ≤ n) (h1 : n < 18446744073709551616) : valN (dgB 8 n) 0 = n := by
  simp only [dgB, valN]
  omega
theorem dg8_head {n : Int} (h0 : 0 ≤ n) (h1 : n < 72057594037927936) : strip (dgB 8 n) = strip (dgB 7 n) := by
  rw [dgB_succ, strip_cons, if_pos (by omega)]
theorem numL_byte (n : Int) : ∀ x ∈ numL n, 0 ≤ x ∧ x < 256 := fun x h => dgB_byte n 8 x (strip_mem _ x h)
/-- A number's bytes say it. -/
theorem val_num {n : Int} (h0 : 0 < n) (h1 : n < 72057594037927936) : valE (numL n) = (n, 0) := by
  have e : valN (numL n) 0 = n := by unfold numL; rw [valN_strip, valN_dg8 (by omega) (by omega)]
  have hl : (numL n).length ≤ 7 := by unfold numL; rw [dg8_head (by omega) h1]; have := strip_len (dgB 7 n); rw [dgB_len] at this; exact this
  have hn : (numL n).length ≠ 0 := by
    intro h
    rw [List.eq_nil_of_length_eq_zero h] at e
    simp [valN] at e
    omega
  unfold valE
  rw [if_neg (by
    rintro (h | h | h)
    · omega
    · omega
    · exact strip_head (dgB 8 n) hn h), e]
theorem dgB_back : ∀ (l : List Int), (∀ x ∈ l, 0 ≤ x ∧ x < 256) → l.length ≤ 7 → ∀ n, n = valN l 0 → dgB 8 n = List.replicate (8 - l.length) 0 ++ l := by
  intro l hb hl n hn
  subst hn
  match l, hl with
  | [], _ => rfl
  | [a], _ =>
    have := hb a (by simp)
    simp only [valN, dgB, List.length_cons, List.length_nil, List.replicate, Nat.reduceAdd, Nat.reduceSub, List.cons_append, List.nil_append, List.cons.injEq, and_true]
    omega
  | [a, b], _ =>
    have := hb a (by simp); have := hb b (by simp)
    simp only [valN, dgB, List.length_cons, List.length_nil, List.replicate, Nat.reduceAdd, Nat.reduceSub, List.cons_append, List.nil_append, List.cons.injEq, and_true]
    omega
  | [a, b, c], _ =>
    have := hb a (by simp); have := hb b (by simp); have := hb c (by simp)
    simp only [valN, dgB, List.length_cons, List.length_nil, List.replicate, Nat.reduceAdd, Nat.reduceSub, List.cons_append, List.nil_append, List.cons.injEq, and_true]
    omega
  | [a, b, c, d], _ =>
    have := hb a (by simp); have := hb b (by simp); have := hb c (by simp); have := hb d (by simp)
    simp only [valN, dgB, List.length_cons, List.length_nil, List.replicate, Nat.reduceAdd, Nat.reduceSub, List.cons_append, List.nil_append, List.cons.injEq, and_true]
    omega
  | [a, b, c, d, e], _ =>
    have := hb a (by simp); have := hb b (by simp); have := hb c (by simp); have := hb d (by simp); have := hb e (by simp)
    simp only [valN, dgB, List.length_cons, List.length_nil, List.replicate, Nat.reduceAdd, Nat.reduceSub, List.cons_append, List.nil_append, List.cons.injEq, and_true]
    omega
  | [a, b, c, d, e, f], _ =>
    have := hb a (by simp); have := hb b (by simp); have := hb c (by simp); have := hb d (by simp); have := hb e (by simp); have := hb f (by simp)
    simp only [valN, dgB, List.length_cons, List.length_nil, List.replicate, Nat.reduceAdd, Nat.reduceSub, List.cons_append, List.nil_append, List.cons.injEq, and_true]
    omega
  | [a, b, c, d, e, f, g], _ =>
    have := hb a (by simp); have := hb b (by simp); have := hb c (by simp); have := hb d (by simp); have := hb e (by simp); have := hb f (by simp); have := hb g (by simp)
    simp only [valN, dgB, List.length_cons, List.length_nil, List.replicate, Nat.reduceAdd, Nat.reduceSub, List.cons_append, List.nil_append, List.cons.injEq, and_true]
    omega
  | _ :: _ :: _ :: _ :: _ :: _ :: _ :: _ :: _, h => simp only [List.length_cons] at h; omega
/-- Bytes that say a number are that number's. -/
theorem num_val {v : List Int} {n : Int} (h : valE v = (n, 0)) (hb : ∀ x ∈ v, 0 ≤ x ∧ x < 256) : numL n = v := by
  unfold valE at h
  by_cases g : v.length < 1 ∨ 7 < v.length ∨ v.getD 0 0 = 0
  · rw [if_pos g] at h; simp at h
  rw [if_neg g] at h
  have e : valN v 0 = n := by simpa using h
  unfold numL
  rw [dgB_back v hb (by omega) n e.symm, strip_zeros v (by omega)]
-- ---- put and got
theorem plc_lt (t : Int) (h1 : 1 ≤ t) (h2 : t ≤ 13) : plc t < 15 := by
  have : ∀ n : Fin 14, plcL.getD n.val 0 < 15 := by decide
  exact this ⟨t.toNat, by omega⟩
theorem plc_ne {s t : Int} (hs : 1 ≤ s ∧ s ≤ 13) (ht : 1 ≤ t ∧ t ≤ 13) (h : s ≠ t) : plc s ≠ plc t := by
  have : ∀ n m : Fin 14, n.val ≠ m.val → 1 ≤ n.val → 1 ≤ m.val → plcL.getD n.val 0 ≠ plcL.getD m.val 0 := by decide
  exact this ⟨s.toNat, by omega⟩ ⟨t.toNat, by omega⟩ (by show s.toNat ≠ t.toNat; omega) (by show 1 ≤ s.toNat; omega) (by show 1 ≤ t.toNat; omega)
theorem plc_no (t : Int) (h1 : 1 ≤ t) (h2 : t ≤ 13) : plc t ≠ 12 ∧ plc t ≠ 13 := by
  have : ∀ n : Fin 14, plcL.getD n.val 0 ≠ 12 ∧ plcL.getD n.val 0 ≠ 13 := by decide
  exact this ⟨t.toNat, by omega⟩
theorem getD_set_eq {l : List Int} {i : Nat} {v : Int} (h : i < l.length) : (l.set i v).getD i 0 = v := by simp [List.getD, h]
theorem getD_set_ne {l : List Int} {i j : Nat} {v : Int} (h : i ≠ j) : (l.set i v).getD j 0 = l.getD j 0 := by simp [List.getD, List.getElem?_set_ne h]
theorem nameB_of {t : Int} (h1 : 1 ≤ t) (h2 : t ≤ 13) : nameB t = true := by unfold nameB; simp [h1, h2]
theorem nameB_to {t : Int} (h : nameB t = true) : 1 ≤ t ∧ t ≤ 13 := by unfold nameB at h; simpa using h

/-- The number of a tag that fields.Put tells. -/
def pres (l : List Int) (t : Int) : Int := if t = 12 ∧ l.getD 1 0 ≠ 4 then 0 else l.getD (plc t) 0
theorem fp_fg : ∀ (n : Nat), n ≤ 13 → ∀ (l : List Int) (acc r : List Fd), fpGo l n acc = (r, 0) → (∀ t, 1 ≤ t → t ≤ 13 → 0 ≤ l.getD (plc t) 0 ∧ l.getD (plc t) 0 < 72057594037927936) →
    ∃ m, r = acc ++ m ∧ tlvB (13 - n) m = true ∧ ∀ (l0 : List Int) (least : Int), l0.length = 15 → (∀ t : Int, 13 - n < t → t ≤ 13 → l0.getD (plc t) 0 = 0) →
      ∃ l1 least1, fgGo m l0 least = (l1, least1, 0) ∧ l1.length = 15 ∧ (∀ t : Int, 1 ≤ t → t ≤ 13 - n → l1.getD (plc t) 0 = l0.getD (plc t) 0) ∧ (∀ t : Int, 13 - n < t → t ≤ 13 → l1.getD (plc t) 0 = pres l t) ∧ l1.getD 12 0 = l0.getD 12 0 ∧ l1.getD 13 0 = l0.getD 13 0 ∧ (least1 ≤ max least (l.getD 14 0))
  | 0, hn, l, acc, r, h, hr => by
    refine ⟨[], by simp [fpGo] at h; simp [h], rfl, fun l0 least hl hz => ⟨l0, least, rfl, hl, fun _ _ _ => rfl, fun t h1 h2 => by omega, rfl, rfl, by omega⟩⟩
  | n + 1, hn, l, acc, r, h, hr => by
    have ht1 : (1 : Int) ≤ 13 - n := by omega
    have ht2 : (13 : Int) - n ≤ 13 := by omega
    have htn : (13 : Int) - ((n + 1 : Nat) : Int) = 12 - n := by omega
    rw [fpGo_succ] at h
    have skip : pres l (13 - n) = 0 → fpGo l n acc = (r, 0) → ∃ m, r = acc ++ m ∧ tlvB (13 - ((n + 1 : Nat) : Int)) m = true ∧ ∀ (l0 : List Int) (least : Int), l0.length = 15 → (∀ t : Int, 13 - ((n + 1 : Nat) : Int) < t → t ≤ 13 → l0.getD (plc t) 0 = 0) →
      ∃ l1 least1, fgGo m l0 least = (l1, least1, 0) ∧ l1.length = 15 ∧ (∀ t : Int, 1 ≤ t → t ≤ 13 - ((n + 1 : Nat) : Int) → l1.getD (plc t) 0 = l0.getD (plc t) 0) ∧ (∀ t : Int, 13 - ((n + 1 : Nat) : Int) < t → t ≤ 13 → l1.getD (plc t) 0 = pres l t) ∧ l1.getD 12 0 = l0.getD 12 0 ∧ l1.getD 13 0 = l0.getD 13 0 ∧ (least1 ≤ max least (l.getD 14 0)) := by
      intro hp h
      obtain ⟨m, hm, hq, hk⟩ := fp_fg n (by omega) l acc r h hr
      refine ⟨m, hm, ?_, fun l0 least hl hz => ?_⟩
      · cases m with
        | nil => rfl
        | cons f t =>
          rw [tlvB_cons] at hq ⊢
          by_cases g : f.tag ≤ 13 - n
          · rw [if_pos g] at hq; cases hq
          · rw [if_neg g] at hq; rw [if_neg (by omega)]; exact hq
      · obtain ⟨l1, least1, e, hl1, ha, hb, hc, hd, hle⟩ := hk l0 least hl (fun t h1 h2 => hz t (by omega) h2)
        refine ⟨l1, least1, e, hl1, fun t h1 h2 => ha t h1 (by omega), fun t h1 h2 => ?_, hc, hd, hle⟩
        by_cases g : t = 13 - n
        · subst g; rw [ha _ ht1 (by omega), hz _ (by omega) ht2, hp]
        · exact hb t (by omega) h2
    by_cases g1 : l.getD (plc (13 - n)) 0 = 0
    · rw [if_pos g1] at h
      exact skip (by unfold pres; rw [g1]; simp) h
    rw [if_neg g1] at h
    by_cases g2 : n = 1 ∧ l.getD 1 0 ≠ 4
    · rw [if_pos g2] at h
      exact skip (by unfold pres; rw [if_pos ⟨by omega, g2.2⟩]) h
    rw [if_neg g2] at h
    by_cases g3 : l.getD 14 0 < nameE (13 - n)
    · rw [if_pos g3] at h; simp at h
    rw [if_neg g3] at h
    obtain ⟨m, hm, hq, hk⟩ := fp_fg n (by omega) l _ r h hr
    obtain ⟨hr1, hr2⟩ := hr _ ht1 ht2
    have hv := val_num (n := l.getD (plc (13 - n)) 0) (by omega) hr2
    have hpr : pres l (13 - n) = l.getD (plc (13 - n)) 0 := by unfold pres; rw [if_neg (fun h => g2 ⟨by omega, h.2⟩)]
    have hnl : (numL (l.getD (plc (13 - n)) 0)).length ≤ 7 := by
      unfold valE at hv
      by_cases g : (numL (l.getD (plc (13 - n)) 0)).length < 1 ∨ 7 < (numL (l.getD (plc (13 - n)) 0)).length ∨ (numL (l.getD (plc (13 - n)) 0)).getD 0 0 = 0
      · rw [if_pos g] at hv; simp at hv
      · omega
    refine ⟨⟨13 - n, numL (l.getD (plc (13 - n)) 0)⟩ :: m, by rw [hm, List.append_assoc]; rfl, ?_, fun l0 least hl hz => ?_⟩
    · rw [tlvB_cons, if_neg (by show ¬ (13 - (n : Int) ≤ 13 - ((n + 1 : Nat) : Int)); omega), if_neg (by show ¬ (255 < 13 - (n : Int)); omega), if_neg (by show ¬ 255 < (numL (l.getD (plc (13 - n)) 0)).length; omega)]
      exact hq
    · obtain ⟨l1, least1, e, hl1, ha, hb, hc, hd, hle⟩ := hk (l0.set (plc (13 - n)) (l.getD (plc (13 - n)) 0)) (max least (nameE (13 - n))) (by simpa using hl) (fun t h1 h2 => by
        rw [getD_set_ne (plc_ne ⟨ht1, ht2⟩ ⟨by omega, h2⟩ (by omega))]; exact hz t (by omega) h2)
      refine ⟨l1, least1, ?_, hl1, fun t h1 h2 => ?_, fun t h1 h2 => ?_, ?_, ?_, ?_⟩
      · rw [fgGo_cons, if_neg (by show ¬ (128 ≤ 13 - (n : Int)); omega), if_neg (by rw [show nameB (13 - (n : Int)) = true from nameB_of ht1 ht2]; simp)]
        simp only [hv]
        rw [if_neg (by simp)]
        exact e
      · rw [ha t h1 (by omega), getD_set_ne (plc_ne ⟨ht1, ht2⟩ ⟨h1, by omega⟩ (by omega))]
      · by_cases g : t = 13 - n
        · subst g; rw [ha _ ht1 (by omega), getD_set_eq (by rw [hl]; exact plc_lt _ ht1 ht2), hpr]
        · exact hb t (by omega) h2
      · rw [hc, getD_set_ne (plc_no _ ht1 ht2).1]
      · rw [hd, getD_set_ne (plc_no _ ht1 ht2).2]
      · omega
theorem valE_ok {v : List Int} (h : (valE v).2 = 0) (hb : ∀ x ∈ v, 0 ≤ x ∧ x < 256) : 0 < (valE v).1 ∧ (valE v).1 < 72057594037927936 ∧ v ≠ [] := by
  unfold valE at h ⊢
  by_cases g : v.length < 1 ∨ 7 < v.length ∨ v.getD 0 0 = 0
  · rw [if_pos g] at h; simp at h
  rw [if_neg g]
  show 0 < valN v 0 ∧ valN v 0 < 72057594037927936 ∧ v ≠ []
  match v, g, hb with
  | [], g, _ => simp at g
  | [a], g, hb => have := hb a (by simp); simp at g; simp only [valN]; exact ⟨by omega, by omega, by simp⟩
  | [a, b], g, hb => have := hb a (by simp); have := hb b (by simp); simp at g; simp only [valN]; exact ⟨by omega, by omega, by simp⟩
  | [a, b, c], g, hb => have := hb a (by simp); have := hb b (by simp); have := hb c (by simp); simp at g; simp only [valN]; exact ⟨by omega, by omega, by simp⟩
  | [a, b, c, d], g, hb => have := hb a (by simp); have := hb b (by simp); have := hb c (by simp); have := hb d (by simp); simp at g; simp only [valN]; exact ⟨by omega, by omega, by simp⟩
  | [a, b, c, d, e], g, hb => have := hb a (by simp); have := hb b (by simp); have := hb c (by simp); have := hb d (by simp); have := hb e (by simp); simp at g; simp only [valN]; exact ⟨by omega, by omega, by simp⟩
  | [a, b, c, d, e, f], g, hb => have := hb a (by simp); have := hb b (by simp); have := hb c (by simp); have := hb d (by simp); have := hb e (by simp); have := hb f (by simp); simp at g; simp only [valN]; exact ⟨by omega, by omega, by simp⟩
  | [a, b, c, d, e, f, k], g, hb => have := hb a (by simp); have := hb b (by simp); have := hb c (by simp); have := hb d (by simp); have := hb e (by simp); have := hb f (by simp); have := hb k (by simp); simp at g; simp only [valN]; exact ⟨by omega, by omega, by simp⟩
  | _ :: _ :: _ :: _ :: _ :: _ :: _ :: _ :: _, g, _ => simp at g

/-- What reading fields sets: nothing else, and what each field says. -/
theorem fg_keep : ∀ (q : List Fd) (last : Int) (l0 : List Int) (least : Int) (l1 : List Int) (least1 : Int), fgGo q l0 least = (l1, least1, 0) → tlvB last q = true → 0 ≤ last → l0.length = 15 → (∀ f ∈ q, ∀ x ∈ f.val, 0 ≤ x ∧ x < 256) →
    l1.length = 15 ∧ (∀ t, 1 ≤ t → t ≤ last → t ≤ 13 → l1.getD (plc t) 0 = l0.getD (plc t) 0) ∧ l1.getD 12 0 = l0.getD 12 0 ∧ l1.getD 13 0 = l0.getD 13 0 ∧ least ≤ least1 ∧ (∀ f ∈ q, 1 ≤ f.tag ∧ f.tag ≤ 13 ∧ last < f.tag ∧ nameE f.tag ≤ least1 ∧ numL (l1.getD (plc f.tag) 0) = f.val ∧ l1.getD (plc f.tag) 0 ≠ 0) ∧
      (∀ t, 1 ≤ t → t ≤ 13 → 0 ≤ l0.getD (plc t) 0 → 0 ≤ l1.getD (plc t) 0) ∧ (∀ t, 1 ≤ t → t ≤ 13 → (∀ f ∈ q, f.tag ≠ t) → l1.getD (plc t) 0 = l0.getD (plc t) 0)
  | [], last, l0, least, l1, least1, h, hq, h0, hl, hb => by
    simp [fgGo] at h
    obtain ⟨rfl, rfl⟩ := h
    exact ⟨hl, fun _ _ _ _ => rfl, rfl, rfl, Int.le_refl _, by simp, fun _ _ _ h => h, fun _ _ _ _ => rfl⟩
  | f :: q, last, l0, least, l1, least1, h, hq, h0, hl, hb => by
    rw [fgGo_cons] at h
    by_cases g1 : 128 ≤ f.tag
    · rw [if_pos g1] at h; simp at h
    rw [if_neg g1] at h
    by_cases g2 : nameB f.tag = false
    · rw [if_pos g2] at h; simp at h
    rw [if_neg g2] at h
    by_cases g3 : (valE f.val).2 ≠ 0
    · rw [if_pos g3] at h; simp only [Prod.mk.injEq] at h; exact absurd h.2.2 g3
    rw [if_neg g3] at h
    have g3' : (valE f.val).2 = 0 := by simpa using g3
    have g2' := nameB_to (by simpa using g2 : nameB f.tag = true)
    have hfb := hb f (by simp)
    obtain ⟨v0, v1, v2⟩ := valE_ok g3' hfb
    rw [tlvB_cons] at hq
    by_cases k1 : f.tag ≤ last
    · rw [if_pos k1] at hq; cases hq
    rw [if_neg k1] at hq
    by_cases k2 : 255 < f.tag
    · rw [if_pos k2] at hq; cases hq
    rw [if_neg k2] at hq
    by_cases k3 : 255 < f.val.length
    · rw [if_pos k3] at hq; cases hq
    rw [if_neg k3] at hq
    obtain ⟨a1, a2, a3, a4, a5, a6, a7, a8⟩ := fg_keep q f.tag _ _ l1 least1 h hq (by omega) (by simpa using hl) (fun x hx => hb x (by simp [hx]))
    have hset : l1.getD (plc f.tag) 0 = (valE f.val).1 := by rw [a2 _ g2'.1 (Int.le_refl _) g2'.2, getD_set_eq (by rw [hl]; exact plc_lt _ g2'.1 g2'.2)]
    refine ⟨a1, fun t h1 h2 h3 => ?_, ?_, ?_, by omega, fun x hx => ?_, fun t h1 h2 h3 => ?_, fun t h1 h2 h3 => ?_⟩
    · rw [a2 t h1 (by omega) h3, getD_set_ne (plc_ne g2' ⟨h1, h3⟩ (by omega))]
    · rw [a3, getD_set_ne (plc_no _ g2'.1 g2'.2).1]
    · rw [a4, getD_set_ne (plc_no _ g2'.1 g2'.2).2]
    · rcases List.mem_cons.1 hx with rfl | hx
      · refine ⟨g2'.1, g2'.2, by omega, by omega, ?_, by rw [hset]; omega⟩
        rw [hset]
        exact num_val (by rw [← g3']) hfb
      · obtain ⟨b1, b2, b3, b4, b5⟩ := a6 x hx
        exact ⟨b1, b2, by omega, b4, b5⟩
    · by_cases e : t = f.tag
      · subst e; rw [hset]; omega
      · exact a7 t h1 h2 (by rw [getD_set_ne (plc_ne g2' ⟨h1, h2⟩ (fun h => e h.symm))]; exact h3)
    · rw [a8 t h1 h2 (fun x hx => h3 x (by simp [hx])), getD_set_ne (plc_ne g2' ⟨h1, h2⟩ (h3 f (by simp)))]

/-- Fields that a reading's numbers agree with are those that it is put as. -/
theorem fp_of : ∀ (n : Nat), n ≤ 13 → ∀ (l : List Int) (q acc : List Fd), tlvB (13 - n) q = true → (∀ f ∈ q, f.tag ≤ 13 ∧ nameE f.tag ≤ l.getD 14 0 ∧ numL (l.getD (plc f.tag) 0) = f.val ∧ l.getD (plc f.tag) 0 ≠ 0 ∧ (f.tag = 12 → l.getD 1 0 = 4)) →
    (∀ t : Int, 13 - n < t → t ≤ 13 → (∀ f ∈ q, f.tag ≠ t) → pres l t = 0) → fpGo l n acc = (acc ++ q, 0)
  | 0, hn, l, q, acc, hq, hf, hz => by
    cases q with
    | nil => simp [fpGo]
    | cons f q =>
      have := (hf f (by simp)).1
      rw [tlvB_cons, if_pos (by omega)] at hq
      cases hq
  | n + 1, hn, l, q, acc, hq, hf, hz => by
    have htn : (13 : Int) - ((n + 1 : Nat) : Int) = 12 - n := by omega
    rw [htn] at hq
    have skip : (∀ f ∈ q, f.tag ≠ 13 - n) → tlvB (13 - n) q = true → fpGo l (n + 1) acc = (acc ++ q, 0) := by
      intro hne hq'
      have hp := hz (13 - n) (by omega) (by omega) hne
      have ih := fp_of n (by omega) l q acc hq' hf (fun t h1 h2 h3 => hz t (by omega) h2 h3)
      rw [fpGo_succ]
      by_cases g1 : l.getD (plc (13 - n)) 0 = 0
      · rw [if_pos g1]; exact ih
      · rw [if_neg g1]
        unfold pres at hp
        by_cases g2 : (13 - (n : Int)) = 12 ∧ l.getD 1 0 ≠ 4
        · rw [if_pos ⟨by omega, g2.2⟩]; exact ih
        · rw [if_neg g2] at hp; exact absurd hp g1
    cases q with
    | nil => exact skip (by simp) rfl
    | cons f q =>
      rw [tlvB_cons] at hq
      by_cases k1 : f.tag ≤ 12 - n
      · rw [if_pos k1] at hq; cases hq
      rw [if_neg k1] at hq
      by_cases k2 : 255 < f.tag
      · rw [if_pos k2] at hq; cases hq
      rw [if_neg k2] at hq
      by_cases k3 : 255 < f.val.length
      · rw [if_pos k3] at hq; cases hq
      rw [if_neg k3] at hq
      by_cases e : f.tag = 13 - n
      · obtain ⟨f1, f2, f3, f4, f5⟩ := hf f (by simp)
        rw [e] at hq f2 f3 f4 f5
        have hgt : ∀ (m : List Fd) (la : Int), tlvB la m = true → ∀ x ∈ m, la < x.tag := by
          intro m
          induction m with
          | nil => simp
          | cons y m ih =>
            intro la hm x hx
            rw [tlvB_cons] at hm
            by_cases j1 : y.tag ≤ la
            · rw [if_pos j1] at hm; cases hm
            rw [if_neg j1] at hm
            by_cases j2 : 255 < y.tag
            · rw [if_pos j2] at hm; cases hm
            rw [if_neg j2] at hm
            by_cases j3 : 255 < y.val.length
            · rw [if_pos j3] at hm; cases hm
            rw [if_neg j3] at hm
            rcases List.mem_cons.1 hx with rfl | hx
            · omega
            · have := ih y.tag hm x hx; omega
        have ih := fp_of n (by omega) l q (acc ++ [f]) hq (fun x hx => hf x (by simp [hx])) (fun t h1 h2 h3 => hz t (by omega) h2 (fun x hx => by
          rcases List.mem_cons.1 hx with rfl | hx
          · omega
          · exact h3 x hx))
        rw [fpGo_succ, if_neg f4, if_neg (fun h => h.2 (f5 (by omega))), if_neg (by omega), f3, ← e]
        rw [ih]
        simp
      · refine skip (fun x hx => ?_) ?_
        · rcases List.mem_cons.1 hx with rfl | hx
          · exact e
          · have hgt : ∀ (m : List Fd) (la : Int), tlvB la m = true → ∀ x ∈ m, la < x.tag := by
              intro m
              induction m with
              | nil => simp
              | cons y m ih =>
                intro la hm x hx
                rw [tlvB_cons] at hm
                by_cases j1 : y.tag ≤ la
                · rw [if_pos j1] at hm; cases hm
                rw [if_neg j1] at hm
                by_cases j2 : 255 < y.tag
                · rw [if_pos j2] at hm; cases hm
                rw [if_neg j2] at hm
                by_cases j3 : 255 < y.val.length
                · rw [if_pos j3] at hm; cases hm
                rw [if_neg j3] at hm
                rcases List.mem_cons.1 hx with rfl | hx
                · omega
                · have := ih y.tag hm x hx; omega
            have := hgt q f.tag hq x hx
            omega
        · rw [tlvB_cons, if_neg (by omega), if_neg k2, if_neg k3]; exact hq
-- ---- the whole of a reading
theorem tkL_facts {l : List Int} (h : tkL l = true) : (1 ≤ l.getD 0 0 ∧ l.getD 0 0 ≤ 1099511627776) ∧ (1 ≤ l.getD 1 0 ∧ l.getD 1 0 ≤ 4) ∧ (0 ≤ l.getD 2 0 ∧ l.getD 2 0 ≤ 39) ∧ (0 ≤ l.getD 3 0 ∧ l.getD 3 0 ≤ 39) ∧ (1 ≤ l.getD 4 0 ∧ l.getD 4 0 ≤ 2) ∧ (0 ≤ l.getD 5 0 ∧ l.getD 5 0 ≤ 3) ∧ (0 ≤ l.getD 6 0 ∧ l.getD 6 0 ≤ 999) ∧ (0 ≤ l.getD 7 0 ∧ l.getD 7 0 ≤ 99999) ∧ (1 ≤ l.getD 8 0 ∧ l.getD 8 0 ≤ 999) ∧ (0 ≤ l.getD 10 0 ∧ l.getD 10 0 ≤ 9) ∧
    (0 ≤ l.getD 9 0 ∧ l.getD 9 0 ≤ 20) ∧ (l.getD 1 0 ≠ 4 → l.getD 9 0 = l.getD 1 0 % 3) := by
  unfold tkL tkB at h
  generalize l.getD 0 0 = a0 at *
  generalize l.getD 1 0 = a1 at *
  generalize l.getD 2 0 = a2 at *
  generalize l.getD 3 0 = a3 at *
  generalize l.getD 4 0 = a4 at *
  generalize l.getD 5 0 = a5 at *
  generalize l.getD 6 0 = a6 at *
  generalize l.getD 7 0 = a7 at *
  generalize l.getD 8 0 = a8 at *
  generalize l.getD 9 0 = a9 at *
  generalize l.getD 10 0 = a10 at *
  simp only [Bool.and_eq_true, wB, decide_eq_true_eq] at h
  obtain ⟨⟨⟨⟨⟨⟨⟨⟨⟨⟨h0, h1⟩, h4⟩, h5⟩, h6⟩, h7⟩, h8⟩, _⟩, h10⟩, hp⟩, hu⟩ := h
  have hp2 : (0 ≤ a2 ∧ a2 ≤ 39) ∧ (0 ≤ a3 ∧ a3 ≤ 39) := by
    unfold placeB zonesB wayB at hp
    by_cases g : a1 = 3
    · rw [if_pos g] at hp; simp [wB] at hp; omega
    · rw [if_neg g] at hp; simp [wB] at hp; omega
  have hu2 : (0 ≤ a9 ∧ a9 ≤ 20) ∧ (a1 ≠ 4 → a9 = a1 % 3) := by
    unfold usesB at hu
    by_cases g1 : a1 = 1
    · rw [if_pos g1] at hu; simp at hu; omega
    rw [if_neg g1] at hu
    by_cases g2 : a1 = 2
    · rw [if_pos g2] at hu; simp at hu; omega
    rw [if_neg g2] at hu
    by_cases g3 : a1 = 3
    · rw [if_pos g3] at hu; simp at hu; omega
    rw [if_neg g3] at hu
    simp [wB] at hu
    omega
  exact ⟨h0, h1, hp2.1, hp2.2, h4, h5, h6, h7, h8, h10, hu2.1, hu2.2⟩
theorem tags13 {p : Int → Prop} (h1 : p 1) (h2 : p 2) (h3 : p 3) (h4 : p 4) (h5 : p 5) (h6 : p 6) (h7 : p 7) (h8 : p 8) (h9 : p 9) (h10 : p 10) (h11 : p 11) (h12 : p 12) (h13 : p 13) : ∀ t, 1 ≤ t → t ≤ 13 → p t := by
  intro t a b
  have : t = 1 ∨ t = 2 ∨ t = 3 ∨ t = 4 ∨ t = 5 ∨ t = 6 ∨ t = 7 ∨ t = 8 ∨ t = 9 ∨ t = 10 ∨ t = 11 ∨ t = 12 ∨ t = 13 := by omega
  rcases this with rfl | rfl | rfl | rfl | rfl | rfl | rfl | rfl | rfl | rfl | rfl | rfl | rfl <;> assumption
theorem ext15 {l m : List Int} (hl : l.length = 15) (hm : m.length = 15) (h12 : l.getD 12 0 = m.getD 12 0) (h13 : l.getD 13 0 = m.getD 13 0) (h : ∀ t, 1 ≤ t → t ≤ 13 → l.getD (plc t) 0 = m.getD (plc t) 0) : l = m := by
  have hj : ∀ j : Fin 15, l.getD j.val 0 = m.getD j.val 0 := by
    intro ⟨j, hj⟩
    have : j = 0 ∨ j = 1 ∨ j = 2 ∨ j = 3 ∨ j = 4 ∨ j = 5 ∨ j = 6 ∨ j = 7 ∨ j = 8 ∨ j = 9 ∨ j = 10 ∨ j = 11 ∨ j = 12 ∨ j = 13 ∨ j = 14 := by omega
    rcases this with rfl | rfl | rfl | rfl | rfl | rfl | rfl | rfl | rfl | rfl | rfl | rfl | rfl | rfl | rfl
    · exact h 4 (by omega) (by omega)
    · exact h 3 (by omega) (by omega)
    · exact h 5 (by omega) (by omega)
    · exact h 6 (by omega) (by omega)
    · exact h 7 (by omega) (by omega)
    · exact h 8 (by omega) (by omega)
    · exact h 9 (by omega) (by omega)
    · exact h 10 (by omega) (by omega)
    · exact h 11 (by omega) (by omega)
    · exact h 12 (by omega) (by omega)
    · exact h 13 (by omega) (by omega)
    · exact h 2 (by omega) (by omega)
    · exact h12
    · exact h13
    · exact h 1 (by omega) (by omega)
  refine List.ext_getElem (by omega) fun i h1 h2 => ?_
  have := hj ⟨i, by omega⟩
  simpa [List.getD, h1, h2] using this
theorem readB_facts {l : List Int} (h : readB l = true) : tkL l = true ∧ (0 ≤ l.getD 11 0 ∧ l.getD 11 0 < 100) ∧ (l.getD 12 0 = 0 ∧ l.getD 13 0 = 0) ∧ (1 ≤ l.getD 14 0 ∧ l.getD 14 0 ≤ 3) := by
  unfold readB at h
  simp only [Bool.and_eq_true, decide_eq_true_eq] at h
  exact ⟨h.1.1.1, h.1.1.2, h.1.2, h.2⟩
theorem readB_mk {l : List Int} (h : tkL l = true ∧ (0 ≤ l.getD 11 0 ∧ l.getD 11 0 < 100) ∧ (l.getD 12 0 = 0 ∧ l.getD 13 0 = 0) ∧ (1 ≤ l.getD 14 0 ∧ l.getD 14 0 ≤ 3)) : readB l = true := by
  unfold readB
  simp only [Bool.and_eq_true, decide_eq_true_eq]
  exact ⟨⟨⟨h.1, h.2.1⟩, h.2.2.1⟩, h.2.2.2⟩
theorem nums_bound {l : List Int} (h : readB l = true) : ∀ t, 1 ≤ t → t ≤ 13 → 0 ≤ l.getD (plc t) 0 ∧ l.getD (plc t) 0 < 72057594037927936 := by
  obtain ⟨ht, hk, hj, hv⟩ := readB_facts h
  obtain ⟨h0, h1, h2, h3, h4, h5, h6, h7, h8, h10, h9, _⟩ := tkL_facts ht
  exact tags13 (show 0 ≤ l.getD 14 0 ∧ l.getD 14 0 < _ by omega) (show 0 ≤ l.getD 11 0 ∧ l.getD 11 0 < _ by omega) (show 0 ≤ l.getD 1 0 ∧ l.getD 1 0 < _ by omega) (show 0 ≤ l.getD 0 0 ∧ l.getD 0 0 < _ by omega) (show 0 ≤ l.getD 2 0 ∧ l.getD 2 0 < _ by omega) (show 0 ≤ l.getD 3 0 ∧ l.getD 3 0 < _ by omega) (show 0 ≤ l.getD 4 0 ∧ l.getD 4 0 < _ by omega) (show 0 ≤ l.getD 5 0 ∧ l.getD 5 0 < _ by omega) (show 0 ≤ l.getD 6 0 ∧ l.getD 6 0 < _ by omega) (show 0 ≤ l.getD 7 0 ∧ l.getD 7 0 < _ by omega) (show 0 ≤ l.getD 8 0 ∧ l.getD 8 0 < _ by omega) (show 0 ≤ l.getD 9 0 ∧ l.getD 9 0 < _ by omega) (show 0 ≤ l.getD 10 0 ∧ l.getD 10 0 < _ by omega)
/-- What was put as fields is got again. -/
theorem fields_back {l : List Int} {q : List Fd} (hl : l.length = 15) (h : fpE l = (q, 0)) : readB l = true ∧ tlvB 0 q = true ∧ fgE q = (l, 0) := by
  unfold fpE at h
  by_cases hr : ¬ readB l = true
  · rw [if_neg hr] at h; simp at h
  have hr := Classical.not_not.1 hr
  rw [if_pos hr] at h
  obtain ⟨m, hm, hq, hk⟩ := fp_fg 13 (Nat.le_refl _) l [] q h (nums_bound hr)
  obtain rfl : q = m := by simpa using hm
  have hq0 : tlvB 0 q = true := hq
  obtain ⟨l1, least1, e, hl1, _, hb, hc, hd, hle⟩ := hk zL 1 rfl (fun t h1 h2 => (tags13 rfl rfl rfl rfl rfl rfl rfl rfl rfl rfl rfl rfl rfl : ∀ t, 1 ≤ t → t ≤ 13 → zL.getD (plc t) 0 = 0) t (by have h1 : (0 : Int) < t := h1; omega) h2)
  obtain ⟨ht, hky, hj, hv⟩ := readB_facts hr
  have hu := (tkL_facts ht).2.2.2.2.2.2.2.2.2.2.2
  have hb' : ∀ t, 1 ≤ t → t ≤ 13 → l1.getD (plc t) 0 = pres l t := fun t h1 h2 => hb t (by show (0 : Int) < t; omega) h2
  have pe : ∀ t, t ≠ 12 → pres l t = l.getD (plc t) 0 := fun t ht => by unfold pres; rw [if_neg (fun h => ht h.1)]
  have e14 : l1.getD 14 0 = l.getD 14 0 := (hb' 1 (by omega) (by omega)).trans (pe 1 (by omega))
  have e1 : l1.getD 1 0 = l.getD 1 0 := (hb' 3 (by omega) (by omega)).trans (pe 3 (by omega))
  have e11 : l1.getD 11 0 = l.getD 11 0 := (hb' 2 (by omega) (by omega)).trans (pe 2 (by omega))
  have e9 : l1.getD 9 0 = pres l 12 := hb' 12 (by omega) (by omega)
  refine ⟨hr, hq0, ?_⟩
  unfold fgE
  rw [if_pos hq0, e]
  simp only
  rw [if_neg (by simp)]
  unfold fgEnd
  rw [if_neg (by rw [e14]; omega), e1]
  by_cases g : l.getD 1 0 = 4
  · have hL : l1 = l := ext15 hl1 hl (by rw [hc, hj.1]; rfl) (by rw [hd, hj.2]; rfl) (fun t h1 h2 => by
      rw [hb' t h1 h2]
      by_cases e12 : t = 12
      · subst e12; unfold pres; rw [if_neg (fun h => h.2 g)]
      · exact pe t e12)
    rw [if_pos g, hL, if_neg (by rintro (h | h) <;> first | omega | (rw [ht] at h; cases h))]
  · have e90 : l1.getD 9 0 = 0 := by rw [e9]; unfold pres; rw [if_pos ⟨rfl, g⟩]
    have hL : l1.set 9 (l.getD 1 0 % 3) = l := ext15 (by simpa using hl1) hl (by rw [getD_set_ne (by omega), hc, hj.1]; rfl) (by rw [getD_set_ne (by omega), hd, hj.2]; rfl) (fun t h1 h2 => by
      by_cases e12 : t = 12
      · subst e12; rw [show plc 12 = 9 from rfl, getD_set_eq (by omega), hu g]
      · rw [getD_set_ne (by rw [show 9 = plc 12 from rfl]; exact plc_ne ⟨by omega, by omega⟩ ⟨h1, h2⟩ (fun h => e12 h.symm)), hb' t h1 h2, pe t e12])
    rw [if_neg g, if_neg (by omega), hL, if_neg (by rintro (h | h) <;> first | omega | (rw [ht] at h; cases h))]
/-- What was got of fields is put as they were. -/
theorem fields_one {l : List Int} {q : List Fd} (h : fgE q = (l, 0)) (hb : ∀ f ∈ q, ∀ x ∈ f.val, 0 ≤ x ∧ x < 256) : l.length = 15 ∧ readB l = true ∧ fpE l = (q, 0) := by
  unfold fgE at h
  by_cases hq : ¬ tlvB 0 q = true
  · rw [if_neg hq] at h; simp at h
  have hq := Classical.not_not.1 hq
  rw [if_pos hq] at h
  obtain ⟨l1, least1, er⟩ : ∃ l1 least1, (fgGo q zL 1) = (l1, least1, (fgGo q zL 1).2.2) := ⟨_, _, rfl⟩
  by_cases he : (fgGo q zL 1).2.2 ≠ 0
  · rw [if_pos he] at h; simp only [Prod.mk.injEq] at h; exact absurd h.2 he
  rw [if_neg he] at h
  have he' : (fgGo q zL 1).2.2 = 0 := by simpa using he
  rw [he'] at er
  rw [er] at h
  simp only at h
  obtain ⟨hl1, _, h12, h13, hle, hfs, hpos, hoff⟩ := fg_keep q 0 zL 1 l1 least1 er hq (by omega) rfl hb
  have h12' : l1.getD 12 0 = 0 := h12
  have h13' : l1.getD 13 0 = 0 := h13
  unfold fgEnd at h
  by_cases g1 : l1.getD 14 0 < least1 ∨ 3 < l1.getD 14 0
  · rw [if_pos g1] at h; simp at h
  rw [if_neg g1] at h
  have zp : ∀ t, 1 ≤ t → t ≤ 13 → zL.getD (plc t) 0 = 0 := tags13 rfl rfl rfl rfl rfl rfl rfl rfl rfl rfl rfl rfl rfl
  by_cases g2 : l1.getD 1 0 = 4
  · rw [if_pos g2] at h
    by_cases g3 : 100 ≤ l1.getD 11 0 ∨ tkL l1 = false
    · rw [if_pos g3] at h; simp at h
    rw [if_neg g3] at h
    obtain rfl : l1 = l := by simpa using h
    have hr : readB l1 = true := readB_mk ⟨by cases ht : tkL l1 <;> simp_all, ⟨hpos 2 (by omega) (by omega) (by rw [zp 2 (by omega) (by omega)]; omega), by omega⟩, ⟨h12', h13'⟩, by omega⟩
    refine ⟨hl1, hr, ?_⟩
    unfold fpE
    rw [if_pos hr, fp_of 13 (Nat.le_refl _) l1 q [] hq (fun f hf => by obtain ⟨a1, a2, a3, a4, a5, a6⟩ := hfs f hf; exact ⟨a2, by omega, a5, a6, fun _ => g2⟩) (fun t h1 h2 h3 => by
      have h1' : 1 ≤ t := by have h1 : (0 : Int) < t := h1; omega
      unfold pres
      rw [if_neg (fun h => h.2 g2), hoff t h1' h2 h3, zp t h1' h2])]
    rfl
  · rw [if_neg g2] at h
    by_cases g4 : l1.getD 9 0 ≠ 0
    · rw [if_pos g4] at h; simp at h
    rw [if_neg g4] at h
    by_cases g3 : 100 ≤ l1.getD 11 0 ∨ tkL (l1.set 9 (l1.getD 1 0 % 3)) = false
    · rw [if_pos g3] at h; simp at h
    rw [if_neg g3] at h
    obtain rfl : l1.set 9 (l1.getD 1 0 % 3) = l := by simpa using h
    have k : ∀ j, j ≠ 9 → (l1.set 9 (l1.getD 1 0 % 3)).getD j 0 = l1.getD j 0 := fun j hj => getD_set_ne (fun h => hj h.symm)
    have hr : readB (l1.set 9 (l1.getD 1 0 % 3)) = true := readB_mk ⟨by cases ht : tkL (l1.set 9 (l1.getD 1 0 % 3)) <;> simp_all, by rw [k 11 (by omega)]; exact ⟨hpos 2 (by omega) (by omega) (by rw [zp 2 (by omega) (by omega)]; omega), by omega⟩, by rw [k 12 (by omega), k 13 (by omega)]; exact ⟨h12', h13'⟩, by rw [k 14 (by omega)]; omega⟩
    refine ⟨by simpa using hl1, hr, ?_⟩
    unfold fpE
    have no12 : ∀ f ∈ q, f.tag ≠ 12 := fun f hf e => by
      obtain ⟨a1, a2, a3, a4, a5, a6⟩ := hfs f hf
      rw [e] at a6
      exact a6 (Classical.not_not.1 g4)
    rw [if_pos hr, fp_of 13 (Nat.le_refl _) _ q [] hq (fun f hf => by
      obtain ⟨a1, a2, a3, a4, a5, a6⟩ := hfs f hf
      have hp : plc f.tag ≠ 9 := by rw [show 9 = plc 12 from rfl]; exact plc_ne ⟨a1, a2⟩ ⟨by omega, by omega⟩ (no12 f hf)
      rw [k _ hp, k 14 (by omega)]
      exact ⟨a2, by omega, a5, a6, fun e => absurd e (no12 f hf)⟩) (fun t h1 h2 h3 => by
      have h1' : 1 ≤ t := by have h1 : (0 : Int) < t := h1; omega
      unfold pres
      by_cases e12 : t = 12
      · rw [if_pos ⟨e12, by rw [k 1 (by omega)]; exact g2⟩]
      · have hp : plc t ≠ 9 := by rw [show 9 = plc 12 from rfl]; exact plc_ne ⟨h1', h2⟩ ⟨by omega, by omega⟩ e12
        rw [if_neg (fun h => e12 h.1), k _ hp, hoff t h1' h2 h3, zp t h1' h2])]
    rfl
end Go.Proofs.Ytachkhjbckapoaa

namespace Go.Proofs.Ytachkhjbckapoaa
open Go.RowKit
set_option linter.unusedVariables false
set_option maxRecDepth 100000
set_option linter.unusedSimpArgs false

/-- A key: its number, its secret, its days. -/
structure Ky where
  id : Int
  sec : List Int
  fr : Int
  til : Int
def rightB (k : Ky) : Bool := wB k.id 0 99 && (decide (1 ≤ k.sec.length) && decide (k.sec.length ≤ 64)) && (decide (0 ≤ k.fr) && decide (k.fr ≤ k.til) && decide (k.til ≤ 99999))
/-- A ring: right keys, each of a greater number than the one ahead of it. -/
def ringGo : Int → List Ky → Bool
  | _, [] => true
  | last, k :: t => rightB k && decide (last < k.id) && ringGo k.id t
def ringB (l : List Ky) : Bool := ringGo (-1) l

theorem right_any (B : Option Addr) (n c : Nat) (k : Ky) (hn : k.sec.length = n) (w : World) :
    Calls Try.prog 71 #[.agg #[.int .i64 k.id, .slice B n c, .int .i64 k.fr, .int .i64 k.til]] w fun e w' => e = .returned (.bool (rightB k)) ∧ Below w.heap.size w w' := by
  subst hn
  obtain ⟨id, sec, fr, til⟩ := k
  show Calls _ _ #[.agg #[.int .i64 id, .slice B sec.length c, .int .i64 fr, .int .i64 til]] _ _
  by_cases h1 : 0 ≤ id
  rotate_left
  · have E := Lib.hid (show rightB ⟨id, sec, fr, til⟩ = false by unfold rightB; rw [wB_no (.inl (by simp; omega))]; rfl)
    go_enter Try.func71, Try.ntmps71
    go_wp2
    go_ret
    exact ⟨by rw [E.out] <;> rfl, (by repeat (first | (with_reducible exact bR _) | (with_reducible refine bT ?_ (by assumption)) | (with_reducible apply bA) | (with_reducible apply bD) | (with_reducible apply bN) | (with_reducible refine bS ?_ (by first | omega | (simp; done) | (simp; omega)))))⟩
  by_cases h2 : id < 100
  rotate_left
  · have E := Lib.hid (show rightB ⟨id, sec, fr, til⟩ = false by unfold rightB; rw [wB_no (.inr (by simp; omega))]; rfl)
    go_enter Try.func71, Try.ntmps71
    go_wp2
    go_ret
    exact ⟨by rw [E.out] <;> rfl, (by repeat (first | (with_reducible exact bR _) | (with_reducible refine bT ?_ (by assumption)) | (with_reducible apply bA) | (with_reducible apply bD) | (with_reducible apply bN) | (with_reducible refine bS ?_ (by first | omega | (simp; done) | (simp; omega)))))⟩
  have E1 := wB_mk (n := id) (a := 0) (b := 99) h1 (by omega)
  by_cases h3 : 1 ≤ sec.length
  rotate_left
  · have E := Lib.hid (show rightB ⟨id, sec, fr, til⟩ = false by simp [rightB, h3])
    have h3' : ¬ (1 : Int) ≤ (sec.length : Int) := by omega
    go_enter Try.func71, Try.ntmps71
    go_wp2
    go_ret
    exact ⟨by rw [E.out] <;> rfl, (by repeat (first | (with_reducible exact bR _) | (with_reducible refine bT ?_ (by assumption)) | (with_reducible apply bA) | (with_reducible apply bD) | (with_reducible apply bN) | (with_reducible refine bS ?_ (by first | omega | (simp; done) | (simp; omega)))))⟩
  have h3' : (1 : Int) ≤ (sec.length : Int) := by omega
  by_cases h4 : sec.length ≤ 64
  rotate_left
  · have E := Lib.hid (show rightB ⟨id, sec, fr, til⟩ = false by simp [rightB, h4])
    have h4' : ¬ (sec.length : Int) ≤ 64 := by omega
    go_enter Try.func71, Try.ntmps71
    go_wp2
    go_ret
    exact ⟨by rw [E.out] <;> rfl, (by repeat (first | (with_reducible exact bR _) | (with_reducible refine bT ?_ (by assumption)) | (with_reducible apply bA) | (with_reducible apply bD) | (with_reducible apply bN) | (with_reducible refine bS ?_ (by first | omega | (simp; done) | (simp; omega)))))⟩
  have h4' : (sec.length : Int) ≤ 64 := by omega
  by_cases h5 : 0 ≤ fr
  rotate_left
  · have E := Lib.hid (show rightB ⟨id, sec, fr, til⟩ = false by simp [rightB, h5])
    go_enter Try.func71, Try.ntmps71
    go_wp2
    go_ret
    exact ⟨by rw [E.out] <;> rfl, (by repeat (first | (with_reducible exact bR _) | (with_reducible refine bT ?_ (by assumption)) | (with_reducible apply bA) | (with_reducible apply bD) | (with_reducible apply bN) | (with_reducible refine bS ?_ (by first | omega | (simp; done) | (simp; omega)))))⟩
  by_cases h6 : fr ≤ til
  rotate_left
  · have E := Lib.hid (show rightB ⟨id, sec, fr, til⟩ = false by simp [rightB, h6])
    go_enter Try.func71, Try.ntmps71
    go_wp2
    go_ret
    exact ⟨by rw [E.out] <;> rfl, (by repeat (first | (with_reducible exact bR _) | (with_reducible refine bT ?_ (by assumption)) | (with_reducible apply bA) | (with_reducible apply bD) | (with_reducible apply bN) | (with_reducible refine bS ?_ (by first | omega | (simp; done) | (simp; omega)))))⟩
  by_cases h7 : til ≤ 99999
  rotate_left
  · have E := Lib.hid (show rightB ⟨id, sec, fr, til⟩ = false by simp [rightB, h7])
    go_enter Try.func71, Try.ntmps71
    go_wp2
    go_ret
    exact ⟨by rw [E.out] <;> rfl, (by repeat (first | (with_reducible exact bR _) | (with_reducible refine bT ?_ (by assumption)) | (with_reducible apply bA) | (with_reducible apply bD) | (with_reducible apply bN) | (with_reducible refine bS ?_ (by first | omega | (simp; done) | (simp; omega)))))⟩
  have E := Lib.hid (show rightB ⟨id, sec, fr, til⟩ = true by simp only [rightB, E1, h3, h4, h5, h6, h7, decide_true, Bool.and_true])
  go_enter Try.func71, Try.ntmps71
  go_wp2
  go_ret
  exact ⟨by rw [E.out] <;> rfl, (by repeat (first | (with_reducible exact bR _) | (with_reducible refine bT ?_ (by assumption)) | (with_reducible apply bA) | (with_reducible apply bD) | (with_reducible apply bN) | (with_reducible refine bS ?_ (by first | omega | (simp; done) | (simp; omega)))))⟩
end Go.Proofs.Ytachkhjbckapoaa

namespace Go.Proofs.Ytachkhjbckapoaa
open Go.RowKit Go.Shelf
set_option linter.unusedVariables false
set_option maxRecDepth 100000
set_option linter.unusedSimpArgs false

/-- The key at a place of memory. -/
def KeyAt (w : World) (p : Addr) (k : Ky) : Prop :=
  ∃ (B : Option Addr) (c : Nat), w.cell? p = some (.int .i64 k.id) ∧ w.cell? ⟨p.block, p.off + 1, none⟩ = some (.slice B k.sec.length c) ∧ w.cell? ⟨p.block, p.off + 2, none⟩ = some (.int .i64 k.fr) ∧ w.cell? ⟨p.block, p.off + 3, none⟩ = some (.int .i64 k.til) ∧ k.sec.length ≤ c ∧ c ≤ 9223372036854775807 ∧ RdI w .u8 B k.sec ∧ ∀ x ∈ k.sec, 0 ≤ x ∧ x < 256
/-- The slice at A reads as the keys l. -/
def RdK (w : World) (A : Option Addr) (l : List Ky) : Prop :=
  l = [] ∨ ∃ ad, A = some ad ∧ ad.block < w.heap.size ∧ ∀ j, (h : j < l.length) → KeyAt w (ad.add (j * 4)) l[j]
theorem KeyAt.below {w w' : World} {p : Addr} {n : Nat} {k : Ky} (h : KeyAt w p k) (hb : Below n w w') (hn : w.heap.size ≤ n) : KeyAt w' p k := by
  obtain ⟨B, c, h1, h2, h3, h4, h5, h6, h7, h8⟩ := h
  have K : ∀ {a : Addr} {v : Value}, w.cell? a = some v → w'.cell? a = some v := fun hc => (hb.cell (Nat.lt_of_lt_of_le (World.block_lt_of_cell? w _ hc) hn)).trans hc
  exact ⟨B, c, K h1, K h2, K h3, K h4, h5, h6, h7.keep hb.size (fun b hbn => hb.block b (Nat.lt_of_lt_of_le hbn hn)), h8⟩
theorem RdK.below {w w' : World} {A : Option Addr} {l : List Ky} {n : Nat} (h : RdK w A l) (hb : Below n w w') (hn : w.heap.size ≤ n) : RdK w' A l := by
  rcases h with h | ⟨ad, e, hlt, hk⟩
  · exact .inl h
  · exact .inr ⟨ad, e, Nat.lt_of_lt_of_le hlt hb.size, fun j hj => (hk j hj).below hb hn⟩
theorem ringGo_cons (last : Int) (k : Ky) (t : List Ky) : ringGo last (k :: t) = (rightB k && decide (last < k.id) && ringGo k.id t) := rfl

theorem is1_any (B : Option Addr) (n c : Nat) (k : Ky) (hn : k.sec.length = n) (last : Int) (g : Nat) (w : World) (hg : Boxed w g 3 (.int .i64 last)) :
    Calls Try.prog 70 #[.agg #[.int .i64 k.id, .slice B n c, .int .i64 k.fr, .int .i64 k.til], .pointer (some ⟨g, 0, none⟩)] w fun e w' => e = .returned (.bool (!(rightB k && decide (last < k.id)))) ∧ Boxed w' g 3 (.int .i64 k.id) ∧ Below g w w' := by
  have hR := right_any B n c k hn
  obtain ⟨z, hz⟩ : ∃ z, rightB k = z := ⟨_, rfl⟩
  rw [hz] at hR ⊢
  clear hz
  obtain ⟨id, sec, fr, til⟩ := k
  have hc := hg.cell
  have hf := hg.frozen
  have hlt : g < w.heap.size := (Array.getElem?_eq_some_iff.1 hg).1
  have hx0 : ((w.setCell ⟨g, 0, none⟩ (.int .i64 id)).alloc (.cells #[.int .i64 id, .slice B n c, .int .i64 fr, .int .i64 til] 49)).cell? ⟨w.heap.size, 0, none⟩ = some (.int .i64 id) := by
    have h := heap_alloc_new (w.setCell ⟨g, 0, none⟩ (.int .i64 id)) (.cells #[.int .i64 id, .slice B n c, .int .i64 fr, .int .i64 til] 49)
    rw [show (w.setCell ⟨g, 0, none⟩ (.int .i64 id)).heap.size = w.heap.size by simp] at h
    exact cell_of_row _ _ _ _ _ _ h
  have hb1 : Below g w ((w.setCell ⟨g, 0, none⟩ (.int .i64 id)).alloc (.cells #[.int .i64 id, .slice B n c, .int .i64 fr, .int .i64 til] 49)) := ((Below.refl g w).setCell (p := ⟨g, 0, none⟩) (Nat.le_refl _) _).alloc (by simp; omega) _
  have hsz1 : g < ((w.setCell ⟨g, 0, none⟩ (.int .i64 id)).alloc (.cells #[.int .i64 id, .slice B n c, .int .i64 fr, .int .i64 til] 49)).heap.size := by simp; omega
  have hsz2 : w.heap.size < ((w.setCell ⟨g, 0, none⟩ (.int .i64 id)).alloc (.cells #[.int .i64 id, .slice B n c, .int .i64 fr, .int .i64 til] 49)).heap.size := by simp
  have hg1 : Boxed ((w.setCell ⟨g, 0, none⟩ (.int .i64 id)).alloc (.cells #[.int .i64 id, .slice B n c, .int .i64 fr, .int .i64 til] 49)) g 3 (.int .i64 id) := (hg.set _).alloc _
  cases z with
  | false =>
    go_enter Try.func70, Try.ntmps70
    go_wp2_with (go_at_call 71; (with_reducible refine (hR _).mono ?_); rintro e w' ⟨rfl, hb⟩; go_loud (have hx := (hb.cell (p := ⟨w.heap.size, 0, none⟩) hsz2).trans hx0; have hbx := hb1.trans (hb.mono (Nat.le_of_lt hsz1)); have hgx := hb.block g hsz1))
    go_ret
    exact ⟨rfl, hgx.trans hg1, hbx⟩
  | true =>
    by_cases hl : id ≤ last
    · have hd : decide (last < id) = false := by rw [decide_eq_false_iff_not]; omega
      rw [hd]
      go_enter Try.func70, Try.ntmps70
      go_wp2_with (go_at_call 71; (with_reducible refine (hR _).mono ?_); rintro e w' ⟨rfl, hb⟩; go_loud (have hx := (hb.cell (p := ⟨w.heap.size, 0, none⟩) hsz2).trans hx0; have hbx := hb1.trans (hb.mono (Nat.le_of_lt hsz1)); have hgx := hb.block g hsz1))
      go_ret
      exact ⟨rfl, hgx.trans hg1, hbx⟩
    · have hd : decide (last < id) = true := by rw [decide_eq_true_eq]; omega
      have hd2 : decide (id ≤ last) = false := by rw [decide_eq_false_iff_not]; omega
      rw [hd]
      go_enter Try.func70, Try.ntmps70
      go_wp2_with (go_at_call 71; (with_reducible refine (hR _).mono ?_); rintro e w' ⟨rfl, hb⟩; go_loud (have hx := (hb.cell (p := ⟨w.heap.size, 0, none⟩) hsz2).trans hx0; have hbx := hb1.trans (hb.mono (Nat.le_of_lt hsz1)); have hgx := hb.block g hsz1))
      go_ret
      exact ⟨rfl, hgx.trans hg1, hbx⟩

set_option maxHeartbeats 4000000 in
theorem ringIdx_any (A : Option Addr) (c : Nat) (l : List Ky) (last : Int) (g : Nat) (w : World) (hg : Boxed w g 3 (.int .i64 last)) (hr : ∀ w', Below g w w' → RdK w' A l) (hl : l.length ≤ 9223372036854775807) :
    Calls Try.prog 110 #[.slice A l.length c, .func (.func 70) #[] #[.pointer (some ⟨g, 0, none⟩)]] w fun e w' => (∃ z : Int, e = .returned (.int .i64 z) ∧ (0 ≤ z ↔ ringGo last l = false)) ∧ Below g w w' := by
  go_enter Try.func110, Try.ntmps110
  go_wp2
  go_loopw [5, 8] (fun _ i wr => ∃ (k : Nat) (la : Int), k ≤ l.length ∧ i = .int .i64 k ∧ Boxed wr g 3 (.int .i64 la) ∧ Hid (ringGo la (l.drop k) = ringGo last l) ∧ Below g w wr) (fun _ i _ => l.length - (intOf i).toNat)
  case atStart => exact ⟨0, last, Nat.zero_le _, rfl, hg, Lib.hid (by simp), Below.refl _ _⟩
  case round =>
    obtain ⟨k, la, hk, rfl, hb, hq, hbW⟩ := hrel
    by_cases hlt : k < l.length
    · have e := hq.out
      rw [List.drop_eq_getElem_cons hlt, ringGo_cons] at e
      rcases hr wr hbW with h0 | ⟨ad, rfl, _, hka⟩
      · simp [h0] at hlt
      obtain ⟨B, c2, c0, c1, c22, c3, hcl, hcc, hsr, hsb⟩ := hka k hlt
      generalize l[k] = ky at *
      have HE := Lib.hid e
      clear e hq hka
      have k0 : (0 : Int) ≤ (k : Int) := by omega
      have k1 : (k : Int) < (l.length : Int) := by omega
      obtain ⟨n2, hn2⟩ : ∃ n2, ky.sec.length = n2 := ⟨_, rfl⟩
      rw [hn2] at c1
      have hI := fun W hbb => is1_any B n2 c2 ky hn2 la g W hbb
      cases hz : (rightB ky && decide (la < ky.id)) with
      | true =>
        have e := HE.out
        rw [hz, Bool.true_and] at e
        have HX := Lib.hid e
        clear e HE
        rw [hz] at hI
        clear hz
        go_wp2_with (go_at_call 70; (with_reducible refine (hI _ hb).mono ?_); rintro e w' ⟨rfl, hb2, hbl2⟩)
        go_roundw
        case rel => exact ⟨k + 1, _, by omega, by go_num, hb2, HX, hbW.trans hbl2⟩
        case measure => simp [intOf]; omega
      | false =>
        have e := HE.out
        rw [hz, Bool.false_and] at e
        have HX := Lib.hid e
        clear e HE
        rw [hz] at hI
        clear hz
        go_wp2_with (go_at_call 70; (with_reducible refine (hI _ hb).mono ?_); rintro e w' ⟨rfl, hb2, hbl2⟩)
        go_ret
        exact ⟨⟨_, rfl, ⟨fun _ => HX.out.symm, fun _ => by omega⟩⟩, hbW.trans hbl2⟩
    · have e := hq.out
      rw [List.drop_eq_nil_of_le (by omega)] at e
      have HE := Lib.hid (show ringGo last l = true from e.symm)
      clear e hq
      go_wp2
      go_ret
      exact ⟨⟨_, rfl, ⟨fun h => by omega, fun h => by rw [HE.out] at h; cases h⟩⟩, hbW⟩

theorem ringHas_any (A : Option Addr) (c : Nat) (l : List Ky) (last : Int) (g : Nat) (w : World) (hg : Boxed w g 3 (.int .i64 last)) (hr : ∀ w', Below g w w' → RdK w' A l) (hl : l.length ≤ 9223372036854775807) :
    Calls Try.prog 69 #[.slice A l.length c, .func (.func 70) #[] #[.pointer (some ⟨g, 0, none⟩)]] w fun e w' => e = .returned (.bool (!(ringGo last l))) ∧ Below g w w' := by
  cases hz : ringGo last l with
  | true =>
    have HZ := Lib.hid hz
    go_enter Try.func69, Try.ntmps69
    go_wp2_with (go_at_call 110; (with_reducible refine (ringIdx_any A c l last g _ hg hr hl).mono ?_); rintro e w' ⟨⟨z, rfl, hz2⟩, hb⟩; have hneg : decide (0 ≤ z) = false := (by rw [decide_eq_false_iff_not]; intro h; have := hz2.1 h; rw [HZ.out] at this; cases this); clear hz2)
    go_ret
    exact ⟨by first | rfl | simp [hneg], hb⟩
  | false =>
    have HZ := Lib.hid hz
    go_enter Try.func69, Try.ntmps69
    go_wp2_with (go_at_call 110; (with_reducible refine (ringIdx_any A c l last g _ hg hr hl).mono ?_); rintro e w' ⟨⟨z, rfl, hz2⟩, hb⟩; have hneg : decide (0 ≤ z) = true := (by rw [decide_eq_true_eq]; exact hz2.2 HZ.out); clear hz2)
    go_ret
    exact ⟨by first | rfl | simp [hneg], hb⟩

theorem ringIs_any (A : Option Addr) (c : Nat) (l : List Ky) (w : World) (hr : RdK w A l) (hl : l.length ≤ 9223372036854775807) :
    Calls Try.prog 28 #[.slice A l.length c] w fun e w' => e = .returned (.bool (ringB l)) ∧ Below w.heap.size w w' := by
  have hmf : ∀ (fn : Fn) (first cap : Array Value) (w : World), (Instr.makeFunc fn first cap).run Try.prog w = .ok (.func fn first cap) w := fun _ _ _ _ => rfl
  have hG := Boxed.new w 3 (.int .i64 (-1))
  have hK : ∀ w', Below w.heap.size (w.alloc (.cells #[.int .i64 (-1)] 3)) w' → RdK w' A l := fun w' hb => hr.below ((bel1 w _).trans hb) (Nat.le_refl _)
  go_enter Try.func28, Try.ntmps28
  go_wp2_with (go_at_call 69; (with_reducible refine (ringHas_any A c l (-1) w.heap.size _ hG hK hl).mono ?_); rintro e w' ⟨rfl, hb⟩)
  go_ret
  exact ⟨by simp [ringB], (bel1 w _).trans hb⟩
end Go.Proofs.Ytachkhjbckapoaa

namespace Go.Proofs.Ytachkhjbckapoaa
open Go.RowKit Go.Shelf
set_option linter.unusedVariables false
set_option maxRecDepth 100000
set_option linter.unusedSimpArgs false

theorem rightB_id {k : Ky} (h : rightB k = true) : 0 ≤ k.id ∧ k.id ≤ 99 := by
  unfold rightB at h
  simp only [Bool.and_eq_true] at h
  exact wB_iff h.1.1
theorem ringGo_mem : ∀ (l : List Ky) (last : Int), ringGo last l = true → ∀ k ∈ l, rightB k = true ∧ last < k.id
  | [], _, _, k, hk => by simp at hk
  | x :: t, last, h, k, hk => by
    rw [ringGo_cons, Bool.and_eq_true, Bool.and_eq_true, decide_eq_true_eq] at h
    rcases List.mem_cons.1 hk with rfl | hk
    · exact h.1
    · have := ringGo_mem t x.id h.2 k hk
      exact ⟨this.1, by have := h.1.2; omega⟩
theorem ringGo_lt : ∀ (l : List Ky) (last : Int), ringGo last l = true → ∀ (a b : Nat) (hb : b < l.length) (ha : a < b), (l[a]'(by omega)).id < l[b].id
  | [], _, _, a, b, hb, _ => by simp at hb
  | x :: t, last, h, a, b, hb, ha => by
    rw [ringGo_cons, Bool.and_eq_true] at h
    obtain ⟨b, rfl⟩ : ∃ b', b = b' + 1 := ⟨b - 1, by omega⟩
    simp only [List.getElem_cons_succ]
    cases a with
    | zero => exact (ringGo_mem t x.id h.2 _ (List.getElem_mem _)).2
    | succ a =>
      simp only [List.getElem_cons_succ]
      exact ringGo_lt t x.id h.2 a b (by simpa using hb) (by omega)

theorem any_none (l : List Ky) (id : Int) (h : ∀ (j : Nat) (hj : j < l.length), l[j].id < id) : (l.any fun k => k.id == id) = false := by
  rw [List.any_eq_false]
  intro k hk
  obtain ⟨j, hj, rfl⟩ := List.getElem_of_mem hk
  have := h j hj
  simp; omega
theorem any_at (l : List Ky) (id : Int) (a : Nat) (ha : a < l.length) (h1 : ∀ (j : Nat) (hj : j < l.length), j < a → l[j].id < id) (h2 : ∀ (j : Nat) (hj : j < l.length), a ≤ j → id ≤ l[j].id) (hlt : ∀ (a b : Nat) (hb : b < l.length) (ha : a < b), (l[a]'(by omega)).id < l[b].id) : (l.any fun k => k.id == id) = decide (l[a].id - id = 0) := by
  by_cases e : l[a].id = id
  · rw [decide_eq_true (by omega), List.any_eq_true]
    exact ⟨l[a], List.getElem_mem ha, by simp [e]⟩
  · rw [decide_eq_false (by omega), List.any_eq_false]
    intro k hk
    obtain ⟨j, hj, rfl⟩ := List.getElem_of_mem hk
    have g1 := h1 j hj
    have g2 := h2 j hj
    have g3 := h2 a ha (Nat.le_refl _)
    by_cases hja : j < a
    · have := g1 hja; simp; omega
    · by_cases hje : j = a
      · subst hje; simpa using e
      · have := hlt a j hj (by omega); simp; omega

theorem place1_any (B : Option Addr) (n c : Nat) (k : Ky) (id : Int) (w : World) (h1 : 0 ≤ k.id ∧ k.id ≤ 99) (h2 : 0 ≤ id ∧ id ≤ 99) :
    Calls Try.prog 118 #[.agg #[.int .i64 k.id, .slice B n c, .int .i64 k.fr, .int .i64 k.til], .int .i64 id] w fun e w' => e = .returned (.int .i64 (k.id - id)) ∧ Below w.heap.size w w' := by
  obtain ⟨kid, sec, fr, til⟩ := k
  have hw : IntKind.i64.wrap (kid - id) = kid - id := by rw [IntKind.wrap_i64]; simp only at h1; omega
  go_enter Try.func118, Try.ntmps118
  go_wp2
  go_ret
  exact ⟨rfl, (by repeat (first | (with_reducible exact bR _) | (with_reducible refine bT ?_ (by assumption)) | (with_reducible apply bA) | (with_reducible apply bD) | (with_reducible apply bN) | (with_reducible refine bS ?_ (by first | omega | (simp; done) | (simp; omega)))))⟩

set_option maxHeartbeats 4000000 in
theorem bsearch_any (A : Option Addr) (c : Nat) (l : List Ky) (id : Int) (w : World) (hr : RdK w A l) (hl : l.length ≤ 100) (hlt : ∀ (a b : Nat) (hb : b < l.length) (ha : a < b), (l[a]'(by omega)).id < l[b].id) (hid : ∀ k ∈ l, 0 ≤ k.id ∧ k.id ≤ 99) (h2 : 0 ≤ id ∧ id ≤ 99) :
    Calls Try.prog 117 #[.slice A l.length c, .int .i64 id, .func (.func 118) #[] #[]] w fun e w' =>
      (∃ p : Nat, p ≤ l.length ∧ e = .returned (.tuple #[.int .i64 p, .bool (l.any fun k => k.id == id)]) ∧ (∀ (j : Nat) (hj : j < l.length), j < p → l[j].id < id) ∧ (∀ (j : Nat) (hj : j < l.length), p ≤ j → id ≤ l[j].id)) ∧ Below w.heap.size w w' := by
  go_enter Try.func117, Try.ntmps117
  go_wp2
  go_loopw [9, 10] (fun i j wr => ∃ a b : Nat, a ≤ b ∧ b ≤ l.length ∧ i = .int .i64 a ∧ j = .int .i64 b ∧ (∀ (j : Nat) (hj : j < l.length), j < a → l[j].id < id) ∧ (∀ (j : Nat) (hj : j < l.length), b ≤ j → id ≤ l[j].id) ∧ Below w.heap.size w wr) (fun i j _ => (intOf j).toNat - (intOf i).toNat)
  case atStart => exact ⟨0, l.length, by omega, by omega, rfl, rfl, fun j hj h => by omega, fun j hj h => by omega, Below.refl _ _⟩
  case round =>
    obtain ⟨a, b, hab, hbl, rfl, rfl, hlo, hhi, hbW⟩ := hrel
    by_cases hq : a < b
    · obtain ⟨h, hh⟩ : ∃ h, (a + b) / 2 = h := ⟨_, rfl⟩
      have hah : a ≤ h := by omega
      have hhb : h < b := by omega
      have hhe : ((a : Int) + (b : Int)) / 2 = (h : Int) := by omega
      have hl2 : h < l.length := by omega
      rcases hr.below hbW (Nat.le_refl _) with h0 | ⟨ad, rfl, _, hka⟩
      · simp [h0] at hl2
      obtain ⟨B, c2, c0, c1, c22, c3, hcl, hcc, hsr, hsb⟩ := hka h hl2
      have hidk := hid _ (List.getElem_mem hl2)
      have L1 : ∀ (j : Nat) (hj : j < l.length), j < h → l[j].id < l[h].id := fun j hj hjh => hlt j h hl2 hjh
      have L2 : ∀ (j : Nat) (hj : j < l.length), h < j → l[h].id < l[j].id := fun j hj hjh => hlt h j hj hjh
      obtain ⟨ky, hky⟩ : ∃ ky, l[h] = ky := ⟨_, rfl⟩
      have EQ : ∀ (hj : h < l.length), l[h] = ky := fun _ => hky
      rw [hky] at c0 c1 c22 c3 hidk hsr hsb hcl
      have L1' := Lib.hid L1
      have L2' := Lib.hid L2
      have HLO := Lib.hid hlo
      have HHI := Lib.hid hhi
      have HKY := Lib.hid hky
      clear L1 L2 hlo hhi hky hka EQ
      have k0 : (0 : Int) ≤ (h : Int) := by omega
      have k1 : (h : Int) < (l.length : Int) := by omega
      obtain ⟨n2, hn2⟩ : ∃ n2, ky.sec.length = n2 := ⟨_, rfl⟩
      rw [hn2] at c1
      have hP := fun W => place1_any B n2 c2 ky id W hidk h2
      by_cases hcmp : ky.id < id
      · have hd : decide (ky.id - id < 0) = true := by rw [decide_eq_true_eq]; omega
        go_wp2_with (go_at_call 118; (with_reducible refine (hP _).mono ?_); rintro e w' ⟨rfl, hb2⟩)
        go_roundw
        case rel =>
          refine ⟨h + 1, b, by omega, by omega, by go_num, rfl, ?_, HHI.out, bT hbW hb2⟩
          intro j hj hjh
          by_cases e : j = h
          · subst e; have := HKY.out; rw [this]; exact hcmp
          · have := L1'.out j hj (by omega); rw [HKY.out] at this; omega
        case measure => simp [intOf]; omega
      · have hd : decide (ky.id - id < 0) = false := by rw [decide_eq_false_iff_not]; omega
        go_wp2_with (go_at_call 118; (with_reducible refine (hP _).mono ?_); rintro e w' ⟨rfl, hb2⟩)
        go_roundw
        case rel =>
          refine ⟨a, h, by omega, by omega, rfl, by go_num, HLO.out, ?_, bT hbW hb2⟩
          intro j hj hjh
          by_cases e : j = h
          · subst e; have := HKY.out; rw [this]; omega
          · have := L2'.out j hj (by omega); rw [HKY.out] at this; omega
        case measure => simp [intOf]; omega
    · obtain rfl : a = b := by omega
      have HLO := Lib.hid hlo
      have HHI := Lib.hid hhi
      clear hlo hhi
      by_cases hend : a < l.length
      · rcases hr.below hbW (Nat.le_refl _) with h0 | ⟨ad, rfl, _, hka⟩
        · simp [h0] at hend
        obtain ⟨B, c2, c0, c1, c22, c3, hcl, hcc, hsr, hsb⟩ := hka a hend
        have hidk := hid _ (List.getElem_mem hend)
        have HA := any_at l id a hend HLO.out HHI.out hlt
        generalize hky : l[a] = ky at *
        have HAN := Lib.hid HA
        clear HA hka hky
        have k0 : (0 : Int) ≤ (a : Int) := by omega
        have k1 : (a : Int) < (l.length : Int) := by omega
        obtain ⟨n2, hn2⟩ : ∃ n2, ky.sec.length = n2 := ⟨_, rfl⟩
        rw [hn2] at c1
        have hP := fun W => place1_any B n2 c2 ky id W hidk h2
        go_wp2_with (go_at_call 118; (with_reducible refine (hP _).mono ?_); rintro e w' ⟨rfl, hb2⟩)
        go_ret2
        exact ⟨⟨a, by omega, by rw [HAN.out] <;> rfl, HLO.out, HHI.out⟩, bT hbW hb2⟩
      · have HA := any_none l id (fun j hj => HLO.out j hj (by omega))
        have HAN := Lib.hid HA
        clear HA
        have k1 : ¬ (a : Int) < (l.length : Int) := by omega
        go_wp2
        go_ret2
        exact ⟨⟨a, by omega, by rw [HAN.out] <;> rfl, HLO.out, HHI.out⟩, hbW⟩

theorem place_any (A : Option Addr) (c : Nat) (l : List Ky) (id : Int) (w : World) (hr : RdK w A l) (hl : l.length ≤ 100) (hlt : ∀ (a b : Nat) (hb : b < l.length) (ha : a < b), (l[a]'(by omega)).id < l[b].id) (hid : ∀ k ∈ l, 0 ≤ k.id ∧ k.id ≤ 99) (h2 : 0 ≤ id ∧ id ≤ 99) :
    Calls Try.prog 76 #[.slice A l.length c, .int .i64 id] w fun e w' =>
      (∃ p : Nat, p ≤ l.length ∧ e = .returned (.tuple #[.int .i64 p, .bool (l.any fun k => k.id == id)]) ∧ (∀ (j : Nat) (hj : j < l.length), j < p → l[j].id < id) ∧ (∀ (j : Nat) (hj : j < l.length), p ≤ j → id ≤ l[j].id)) ∧ Below w.heap.size w w' := by
  have hB := fun W hW => bsearch_any A c l id W hW hl hlt hid h2
  generalize (l.any fun k => k.id == id) = z at *
  go_enter Try.func76, Try.ntmps76
  go_wp2_with (go_at_call 117; (with_reducible refine (hB _ hr).mono ?_); rintro e w' ⟨⟨p, hp, rfl, hlo, hhi⟩, hb⟩; have HLO := Lib.hid hlo; have HHI := Lib.hid hhi; clear hlo hhi)
  go_ret2
  exact ⟨⟨p, hp, rfl, HLO.out, HHI.out⟩, hb⟩

theorem ring_len {l : List Ky} (h : ringB l = true) : l.length ≤ 100 := by
  have hlt := ringGo_lt l (-1) h
  have hm := ringGo_mem l (-1) h
  have key : ∀ (j : Nat) (hj : j < l.length), (j : Int) ≤ l[j].id := by
    intro j
    induction j with
    | zero => intro hj; have := rightB_id (hm _ (List.getElem_mem hj)).1; omega
    | succ j ih =>
      intro hj
      have h1 := ih (by omega)
      have h2 := hlt j (j + 1) hj (by omega)
      omega
  by_cases h0 : l.length = 0
  · omega
  · have h1 := key (l.length - 1) (by omega)
    have h2 := rightB_id (hm _ (List.getElem_mem (show l.length - 1 < l.length by omega))).1
    omega
/-- What a ring gives for a number: the key, or an error. -/
def findE (l : List Ky) (id : Int) : Option Ky × Int :=
  if ringB l = false then (none, 1) else if 0 ≤ id ∧ id < 100 then match l.find? (fun k => k.id == id) with
    | some k => (some k, 0)
    | none => (none, 10)
  else (none, 10)
def keyV (r : Option Ky) (B : Option Addr) (c : Nat) : Value := match r with
  | some k => .agg #[.int .i64 k.id, .slice B k.sec.length c, .int .i64 k.fr, .int .i64 k.til]
  | none => .agg #[.int .i64 0, .slice none 0 0, .int .i64 0, .int .i64 0]
def FindRet (l : List Ky) (id : Int) (w0 w : World) (e : Ending) (w' : World) : Prop :=
  (∃ (B : Option Addr) (c : Nat), e = .returned (.tuple #[keyV (findE l id).1 B c, .int .i64 (findE l id).2]) ∧ ∀ k, (findE l id).1 = some k → k.sec.length ≤ c ∧ c ≤ 9223372036854775807 ∧ RdI w0 .u8 B k.sec ∧ (∀ x ∈ k.sec, 0 ≤ x ∧ x < 256) ∧ rightB k = true ∧ k.id = id) ∧ Below w.heap.size w w'
theorem find_at {l : List Ky} {id : Int} {p : Nat} (hp : p < l.length) (h1 : ∀ (j : Nat) (hj : j < l.length), j < p → l[j].id < id) (e : l[p].id = id) : l.find? (fun k => k.id == id) = some l[p] := by
  rw [List.find?_eq_some_iff_getElem]
  refine ⟨by simp [e], p, hp, rfl, ?_⟩
  intro j hj
  have := h1 j (by omega) hj
  simp; omega
theorem any_find {l : List Ky} {id : Int} (h : (l.any fun k => k.id == id) = false) : l.find? (fun k => k.id == id) = none := by
  rw [List.find?_eq_none]
  intro k hk
  have := List.any_eq_false.1 h k hk
  simpa using this
theorem any_pos {l : List Ky} {id : Int} {p : Nat} (h : (l.any fun k => k.id == id) = true) (h1 : ∀ (j : Nat) (hj : j < l.length), j < p → l[j].id < id) (h2 : ∀ (j : Nat) (hj : j < l.length), p ≤ j → id ≤ l[j].id) (hlt : ∀ (a b : Nat) (hb : b < l.length) (ha : a < b), (l[a]'(by omega)).id < l[b].id) : ∃ hp : p < l.length, l[p].id = id := by
  obtain ⟨k, hk, he⟩ := List.any_eq_true.1 h
  obtain ⟨j, hj, rfl⟩ := List.getElem_of_mem hk
  simp only [beq_iff_eq] at he
  have hpj : p ≤ j := by
    rcases Nat.lt_or_ge j p with h | h
    · have := h1 j hj h; omega
    · exact h
  have hp : p < l.length := by omega
  refine ⟨hp, ?_⟩
  have g := h2 p hp (Nat.le_refl _)
  by_cases e : p = j
  · subst e; exact he
  · have := hlt p j hj (by omega); omega

theorem keySize (a b c : Int) (v u : Value) : (#[.int .i64 0, u, .int .i64 0, .int .i64 0] : Array Value).size = (#[.int .i64 a, v, .int .i64 b, .int .i64 c] : Array Value).size := rfl
theorem keyOne (a b c : Int) (B : Option Addr) (m n : Nat) : (#[.int .i64 a, .slice B m n, .int .i64 b, .int .i64 c] : Array Value).all (·.oneCell') = true := by simp [Value.oneCell']
theorem infoK : (Try.prog.info? 49).map (·.size) = some 4 := by kernel_rfl
theorem results_keyrow {P : Program} {fn : Func} {t u : Tmp} {T ty : TypeId} (h : fn.results = #[.cell t T, .tmp u]) {d : TypeDesc} (hu : P.underlying T = some d) (hd : (match d with | .struct _ | .array _ _ => true | _ => false) = true)
    {tmps : Array Value} {g : Nat} {v : Value} {cs : Array Value} {fr : Nat × Nat} (hp : tmps.getD t undef = .pointer (some ⟨g, 0, none⟩)) (hv : tmps.getD u undef = v) {w : World} (hg : w.heap[g]? = some (.cells cs ty fr)) (hi : (P.info? T).map (·.size) = some cs.size) :
    (results fn tmps).run P w = .ok (.tuple #[.agg cs, v]) w := by
  have hl := run_loadVar_row (P := P) w g ty T cs fr d hg hu hd hi
  simp only [results, h, Array.mapM_eq_mapM_toList, List.mapM_cons, List.mapM_nil]
  simp [Sem.run_bind, hp, hv, asAddr, hl, Result.andThen]
theorem findOut {l : List Ky} {id : Int} {w0 w w' : World} {tmps : Array Value} (hp : tmps.getD 4 undef = .pointer (some ⟨w.heap.size, 0, none⟩)) (hv : tmps.getD 5 undef = .int .i64 (findE l id).2) (hn : (findE l id).1 = none)
    (hF : w'.heap[w.heap.size]? = some (.cells #[.int .i64 0, .slice none 0 0, .int .i64 0, .int .i64 0] 49 (0, 0))) (hb : Below w.heap.size w w') :
    ∃ u, (results Try.f31 tmps).run Try.prog (w'.setRow w.heap.size #[.int .i64 0, .slice none 0 0, .int .i64 0, .int .i64 0]) = .ok u (w'.setRow w.heap.size #[.int .i64 0, .slice none 0 0, .int .i64 0, .int .i64 0]) ∧ FindRet l id w0 w (.returned u) (w'.setRow w.heap.size #[.int .i64 0, .slice none 0 0, .int .i64 0, .int .i64 0]) :=
  ⟨_, results_keyrow rfl Try.underlying49 rfl hp hv (setRow_heap _ _ _ _ _ _ hF) infoK, ⟨none, 0, by rw [hn] <;> rfl, fun k hk => by rw [hn] at hk; cases hk⟩, setRow_below hb (Nat.le_refl _)⟩

theorem findPost {l : List Ky} {id : Int} {w0 w w' : World} {a : Act} (hd : a.defers = []) (hp : a.tmps.getD 4 undef = .pointer (some ⟨w.heap.size, 0, none⟩)) (hv : a.tmps.getD 5 undef = .int .i64 (findE l id).2) (hn : (findE l id).1 = none)
    (hF : w'.heap[w.heap.size]? = some (.cells #[.int .i64 0, .slice none 0 0, .int .i64 0, .int .i64 0] 49 (0, 0))) (hb : Below w.heap.size w w') : bodyPost Try.prog Try.f31 (FindRet l id w0 w) .ret a (w'.setRow w.heap.size #[.int .i64 0, .slice none 0 0, .int .i64 0, .int .i64 0]) := by
  obtain ⟨u, hu, hR⟩ := findOut hp hv hn hF hb
  exact bodyPost_ret hu hd hR
theorem findPost2 {l : List Ky} {id : Int} {w0 w w' : World} {a : Act} {ky : Ky} {B : Option Addr} {c n : Nat} (hd : a.defers = []) (hp : a.tmps.getD 4 undef = .pointer (some ⟨w.heap.size, 0, none⟩)) (hv : a.tmps.getD 5 undef = .int .i64 0) (hE : findE l id = (some ky, 0)) (hn : ky.sec.length = n)
    (hF : w'.heap[w.heap.size]? = some (.cells #[.int .i64 0, .slice none 0 0, .int .i64 0, .int .i64 0] 49 (0, 0))) (hb : Below w.heap.size w w') (hc : n ≤ c) (hc9 : c ≤ 9223372036854775807) (hr : RdI w0 .u8 B ky.sec) (hby : ∀ x ∈ ky.sec, 0 ≤ x ∧ x < 256) (hrt : rightB ky = true) (hid : ky.id = id) :
    bodyPost Try.prog Try.f31 (FindRet l id w0 w) .ret a (w'.setRow w.heap.size #[.int .i64 ky.id, .slice B n c, .int .i64 ky.fr, .int .i64 ky.til]) := by
  subst hn
  have hb2 : Below w.heap.size w (w'.setRow w.heap.size #[.int .i64 ky.id, .slice B ky.sec.length c, .int .i64 ky.fr, .int .i64 ky.til]) := setRow_below hb (Nat.le_refl _)
  refine bodyPost_ret (results_keyrow rfl Try.underlying49 rfl hp hv (setRow_heap _ _ _ _ _ _ hF) infoK) hd ⟨⟨B, c, by rw [hE] <;> rfl, fun k hk => ?_⟩, hb2⟩
  rw [hE] at hk
  obtain rfl := Option.some.inj hk
  exact ⟨hc, hc9, hr, hby, hrt, hid⟩

set_option maxHeartbeats 4000000 in
theorem ringFind_any (A : Option Addr) (c : Nat) (l : List Ky) (id : Int) (w0 w : World) (hr : RdK w0 A l) (hb9 : Below w0.heap.size w0 w) (hl : l.length ≤ 9223372036854775807) :
    Calls Try.prog 31 #[.slice A l.length c, .int .i64 id] w (FindRet l id w0 w) := by
  have hI := fun W hW => ringIs_any A c l W hW hl
  have hr0 := (hr.below hb9 (Nat.le_refl _)).below (bel1 w (.cells #[.int .i64 0, .slice none 0 0, .int .i64 0, .int .i64 0] 49)) (Nat.le_refl _)
  have hF0 := heap_alloc_new w (.cells #[.int .i64 0, .slice none 0 0, .int .i64 0, .int .i64 0] 49)
  have hs0 : w.heap.size < (w.alloc (.cells #[.int .i64 0, .slice none 0 0, .int .i64 0, .int .i64 0] 49)).heap.size := by simp
  have hb0 := bel1 w (.cells #[.int .i64 0, .slice none 0 0, .int .i64 0, .int .i64 0] 49)
  cases hz : ringB l with
  | false =>
    have e := (show findE l id = (none, 1) by unfold findE; rw [if_pos hz])
    have E1 := Lib.hid (congrArg Prod.fst e)
    have E2 := Lib.hid (congrArg Prod.snd e)
    rw [hz] at hI
    clear e
    go_enter Try.func31, Try.ntmps31
    go_wp2_with (first | (go_at_call 28; (with_reducible refine (hI _ hr0).mono ?_); rintro e w' ⟨rfl, hb⟩; have hF := (hb.block w.heap.size hs0).trans hF0; have hbx := hb0.trans (hb.mono (Nat.le_of_lt hs0))) | (refine wpList_store_row rfl 49 _ _ rfl w.heap.size #[.int .i64 0, .slice none 0 0, .int .i64 0, .int .i64 0] rfl rfl 49 _ hF ?_ ?_ ?_ ?_; (focus (exact infoK)); (focus (exact keySize _ _ _ _ _)); (focus (exact keyOne _ _ _ _ _ _))))
    exact findPost rfl rfl (by rw [E2.out] <;> rfl) E1.out hF hbx
  | true =>
    have hlen := ring_len hz
    have hlt := ringGo_lt l (-1) hz
    have hm := ringGo_mem l (-1) hz
    have hid : ∀ k ∈ l, 0 ≤ k.id ∧ k.id ≤ 99 := fun k hk => rightB_id (hm k hk).1
    rw [hz] at hI
    have HZ := Lib.hid hz
    by_cases h0 : 0 ≤ id
    rotate_left
    · have e := (show findE l id = (none, 10) by unfold findE; rw [if_neg (by simp [hz]), if_neg (by omega)])
      have E1 := Lib.hid (congrArg Prod.fst e)
      have E2 := Lib.hid (congrArg Prod.snd e)
      clear e hlt hm hid
      go_enter Try.func31, Try.ntmps31
      go_wp2_with (first | (go_at_call 28; (with_reducible refine (hI _ hr0).mono ?_); rintro e w' ⟨rfl, hb⟩; have hF := (hb.block w.heap.size hs0).trans hF0; have hbx := hb0.trans (hb.mono (Nat.le_of_lt hs0))) | (refine wpList_store_row rfl 49 _ _ rfl w.heap.size #[.int .i64 0, .slice none 0 0, .int .i64 0, .int .i64 0] rfl rfl 49 _ hF ?_ ?_ ?_ ?_; (focus (exact infoK)); (focus (exact keySize _ _ _ _ _)); (focus (exact keyOne _ _ _ _ _ _))))
      exact findPost rfl rfl (by rw [E2.out] <;> rfl) E1.out hF hbx
    by_cases h1 : id < 100
    rotate_left
    · have e := (show findE l id = (none, 10) by unfold findE; rw [if_neg (by simp [hz]), if_neg (by omega)])
      have E1 := Lib.hid (congrArg Prod.fst e)
      have E2 := Lib.hid (congrArg Prod.snd e)
      clear e hlt hm hid
      go_enter Try.func31, Try.ntmps31
      go_wp2_with (first | (go_at_call 28; (with_reducible refine (hI _ hr0).mono ?_); rintro e w' ⟨rfl, hb⟩; have hF := (hb.block w.heap.size hs0).trans hF0; have hbx := hb0.trans (hb.mono (Nat.le_of_lt hs0))) | (refine wpList_store_row rfl 49 _ _ rfl w.heap.size #[.int .i64 0, .slice none 0 0, .int .i64 0, .int .i64 0] rfl rfl 49 _ hF ?_ ?_ ?_ ?_; (focus (exact infoK)); (focus (exact keySize _ _ _ _ _)); (focus (exact keyOne _ _ _ _ _ _))))
      exact findPost rfl rfl (by rw [E2.out] <;> rfl) E1.out hF hbx
    have hPl := fun W hW => place_any A c l id W hW hlen hlt hid ⟨h0, by omega⟩
    have HLT := Lib.hid hlt
    have HM := Lib.hid hm
    clear hlt hm hid
    cases ha : (l.any fun k => k.id == id) with
    | false =>
      have e := (show findE l id = (none, 10) by unfold findE; rw [if_neg (by simp [hz]), if_pos ⟨h0, h1⟩, any_find ha])
      have E1 := Lib.hid (congrArg Prod.fst e)
      have E2 := Lib.hid (congrArg Prod.snd e)
      rw [ha] at hPl
      clear e ha
      go_enter Try.func31, Try.ntmps31
      go_wp2_with (first | (go_at_call 28; (with_reducible refine (hI _ hr0).mono ?_); rintro e w1 ⟨rfl, hb⟩; have hF1 := (hb.block w.heap.size hs0).trans hF0; have hb1 := hb0.trans (hb.mono (Nat.le_of_lt hs0)); have hr1 := hr0.below hb (Nat.le_refl _)) | (go_at_call 76; (with_reducible refine (hPl _ hr1).mono ?_); rintro e w' ⟨⟨p, hp, rfl, _, _⟩, hb2⟩; have hF := (hb2.block w.heap.size (Array.getElem?_eq_some_iff.1 hF1).1).trans hF1; have hbx := hb1.trans (hb2.mono hb1.size)) | (refine wpList_store_row rfl 49 _ _ rfl w.heap.size #[.int .i64 0, .slice none 0 0, .int .i64 0, .int .i64 0] rfl rfl 49 _ hF ?_ ?_ ?_ ?_; (focus (exact infoK)); (focus (exact keySize _ _ _ _ _)); (focus (exact keyOne _ _ _ _ _ _))))
      exact findPost rfl rfl (by rw [E2.out] <;> rfl) E1.out hF hbx
    | true =>
      have HA := Lib.hid ha
      rw [ha] at hPl
      clear ha
      go_enter Try.func31, Try.ntmps31
      go_wp2_with (first | (go_at_call 28; (with_reducible refine (hI _ hr0).mono ?_); rintro e w1 ⟨rfl, hb⟩; have hF1 := (hb.block w.heap.size hs0).trans hF0; have hb1 := hb0.trans (hb.mono (Nat.le_of_lt hs0)); have hr1 := hr0.below hb (Nat.le_refl _)) | (go_at_call 76; (with_reducible refine (hPl _ hr1).mono ?_); rintro e w' ⟨⟨p, hp, rfl, hlo, hhi⟩, hb2⟩; have hF := (hb2.block w.heap.size (Array.getElem?_eq_some_iff.1 hF1).1).trans hF1; have hbx := hb1.trans (hb2.mono hb1.size); obtain ⟨hpl, hpe⟩ := any_pos HA.out hlo hhi HLT.out; have e := (show findE l id = (some l[p], 0) by unfold findE; rw [if_neg (by simp [HZ.out]), if_pos ⟨h0, h1⟩, find_at hpl hlo hpe]); have E0 := Lib.hid e; have HPE := Lib.hid hpe; have HRT := Lib.hid (HM.out l[p] (List.getElem_mem hpl)).1; clear e hlo hhi hpe; rcases hr with hh0 | ⟨ad, rfl, _, hka⟩; (focus (simp [hh0] at hpl)); obtain ⟨B, c2, c0, c1, c22, c3, hcl, hcc, hsr, hsb⟩ := hka p hpl; generalize hky : l[p] = ky at *; clear hka hky; have k0 : (0 : Int) ≤ (p : Int) := (by omega); have k1 : (p : Int) < (l.length : Int) := (by omega); obtain ⟨n2, hn2⟩ : ∃ n2, ky.sec.length = n2 := ⟨_, rfl⟩; rw [hn2] at c1 hcl; have c0' := keep_cell hbx (keep_cell hb9 c0); have c1' := keep_cell hbx (keep_cell hb9 c1); have c22' := keep_cell hbx (keep_cell hb9 c22); have c3' := keep_cell hbx (keep_cell hb9 c3); clear c0 c1 c22 c3) | (refine wpList_store_row rfl 49 _ _ rfl w.heap.size #[.int .i64 ky.id, .slice B n2 c2, .int .i64 ky.fr, .int .i64 ky.til] rfl rfl 49 _ hF ?_ ?_ ?_ ?_; (focus (exact infoK)); (focus (exact keySize _ _ _ _ _)); (focus (exact keyOne _ _ _ _ _ _))))
      exact findPost2 rfl rfl rfl E0.out hn2 hF hbx hcl hcc hsr hsb HRT.out HPE.out
end Go.Proofs.Ytachkhjbckapoaa

namespace Go.Proofs.Ytachkhjbckapoaa
open Go.RowKit
set_option linter.unusedVariables false
set_option maxRecDepth 100000
set_option linter.unusedSimpArgs false

def encF (ks : List Ky) (l : List Int) : List Fd × Int := if ringB ks then fpE l else ([], 1)
/-- What barcode.Encode computes. -/
def encE (ks : List Ky) (l : List Int) : List Int × Int :=
  if (encF ks l).2 ≠ 0 then ([], (encF ks l).2) else match findE ks (l.getD 11 0) with
    | (none, e) => ([], e)
    | (some k, _) => if (putE17 (encF ks l).1).2 ≠ 0 then ([], (putE17 (encF ks l).1).2) else (fortyPut (putF (encF ks l).1 ++ tagN k.sec (66 :: putF (encF ks l).1)), 0)
/-- What barcode.open computes: the body, the tag, the fields; the error. -/
def openE (s : List Int) : (List Int × List Int × List Fd) × Int :=
  if (fortyGet s).2 ≠ 0 then (([], [], []), (fortyGet s).2)
  else if (fortyGet s).1.length < 32 then (([], [], []), 14)
  else (((fortyGet s).1.take ((fortyGet s).1.length - 32), (fortyGet s).1.drop ((fortyGet s).1.length - 32), (tlvGet ((fortyGet s).1.take ((fortyGet s).1.length - 32))).1), (tlvGet ((fortyGet s).1.take ((fortyGet s).1.length - 32))).2)
/-- What a body, a tag and fields say. -/
def decF (ks : List Ky) (bd tg : List Int) (q : List Fd) : List Int × Int :=
  if (fgE q).2 ≠ 0 then (zL, (fgE q).2)
  else match findE ks ((fgE q).1.getD 11 0) with
    | (none, e) => (zL, e)
    | (some k, _) => if (tg == tagN k.sec (66 :: bd)) = true then ((fgE q).1, 0) else (zL, 11)
/-- What barcode.Decode computes. -/
def decE (ks : List Ky) (s : List Int) : List Int × Int :=
  if ringB ks = false then (zL, 1)
  else if (openE s).2 ≠ 0 then (zL, (openE s).2)
  else decF ks (openE s).1.1 (openE s).1.2.1 (openE s).1.2.2
/-- What barcode.Version computes. -/
def verF (l : List Fd) : Int × Int := match l with
  | [] => (0, 12)
  | f :: _ => if f.tag ≠ 1 ∨ f.val.length ≠ 1 ∨ f.val.getD 0 0 < 1 ∨ 3 < f.val.getD 0 0 then (0, 12) else (f.val.getD 0 0, 0)
def verW (s : List Int) : Int × Int := if (openE s).2 ≠ 0 then (0, (openE s).2) else verF (openE s).1.2.2
end Go.Proofs.Ytachkhjbckapoaa

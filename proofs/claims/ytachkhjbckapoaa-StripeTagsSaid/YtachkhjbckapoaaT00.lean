/- Words that all texts of this seat share: what is new lies behind what was; a struct argument laid open into its cells. Layers 1 and 2, the plain facts: words of 32 bits as natural numbers; what SHA-256's steps compute, and that the document's bit by bit way comes to the same. Words on memory: a slice of numbers that reads as a list; what a row of the call's own gives of it. Layers 1 and 2: a word turned, by the program and by the document. The reference's turn of a word, one bit at a time. The reference's sums of turned words. No condition. -/
import Derived.Test.YtachkhjbckapoaaProg
import Derived.WalkKit
import Derived.ProofKit
import Derived.OpenShut
import Derived.ShutString
import Derived.ChangeOld
import Derived.Below
import Derived.SizedLaws
import Derived.Carry
import Derived.OwnWalk
import Derived.Tactics
import Derived.Laws.Slices
import Derived.Lib.SmallJoins
import Derived.Lib.Hide
import Derived.Deep.DeepMust
import Derived.Laws.OwnMore
import Derived.Maps.AppendAt
import Derived.Deep.AppendLies
import Derived.Deep.Draws
import Derived.Laws.BitsLemmas
import Derived.Laws.Bits64
import Derived.BigQuiet
import Derived.Deep.RegionHeld3
import Derived.Deep.RegionWith
namespace Go.Proofs.Ytachkhjbckapoaa
open Go.ChangeShapes Go.WideShapes Go.ChangeAt Go.RowKit
set_option linter.unusedVariables false
set_option maxRecDepth 100000

theorem bR (w : World) : Below w.heap.size w w := Below.refl _ _
theorem bA {w W : World} (h : Below w.heap.size w W) (o : Obj) : Below w.heap.size w (W.alloc o) := h.alloc h.size o
theorem bD {w W : World} (h : Below w.heap.size w W) : Below w.heap.size w W.drew := h.drew
theorem bN {w W : World} (h : Below w.heap.size w W) (n : Nat) : Below w.heap.size w (W.drewN n) := ⟨h.os, h.tape, h.output, h.size, h.block⟩
theorem bS {w W : World} {g j : Nat} {v : Value} (h : Below w.heap.size w W) (hg : w.heap.size ≤ g) : Below w.heap.size w (W.setCell ⟨g, j, none⟩ v) := h.setCell hg _
theorem bT {w W w2 : World} (h : Below w.heap.size w W) (k : Below W.heap.size W w2) : Below w.heap.size w w2 := h.trans (k.mono h.size)
theorem bel1 (w : World) (o : Obj) : Below w.heap.size w (w.alloc o) := (Below.refl _ _).alloc (Nat.le_refl _) o
theorem bcell {W w1 : World} (hb : Below W.heap.size W w1) : (∀ b o, b < W.heap.size → w1.cell? ⟨b, o, none⟩ = W.cell? ⟨b, o, none⟩) ∧ (∀ b o, b < W.heap.size → w1.frozen? ⟨b, o, none⟩ = W.frozen? ⟨b, o, none⟩) :=
  ⟨fun b o h => hb.cell (p := ⟨b, o, none⟩) h, fun b o h => hb.frozen (p := ⟨b, o, none⟩) h⟩

/-- Is a number from least to most? -/
def wB (n a b : Int) : Bool := decide (a ≤ n) && decide (n ≤ b)
theorem wB_iff {n a b : Int} (h : wB n a b = true) : a ≤ n ∧ n ≤ b := by simpa [wB] using h
theorem wB_mk {n a b : Int} (h : a ≤ n) (k : n ≤ b) : wB n a b = true := by simp [wB, h, k]
theorem wB_no {n a b : Int} (h : n < a ∨ b < n) : wB n a b = false := by
  unfold wB
  rcases h with h | h
  · rw [decide_eq_false (by omega)]; rfl
  · rw [decide_eq_false (p := n ≤ b) (by omega)]; simp

section leaves
variable {H : Type} {enc : TypeId × Value → H} {P : Program} {w : World} {base : Nat} {spare : Nat → Bool} {held : Bool}

def Lv (R : TypeId → Value → Prop) : List TypeId → List Value → Prop
  | [], [] => True
  | t :: ts, v :: vs => R t v ∧ Lv R ts vs
  | _, _ => False
theorem Lv_append {R : TypeId → Value → Prop} : ∀ (ts : List TypeId) (vs : List Value) (ts' : List TypeId) (vs' : List Value), Lv R ts vs → Lv R ts' vs' → Lv R (ts ++ ts') (vs ++ vs')
  | [], [], _, _, _, h => h
  | _ :: ts, _ :: vs, ts', vs', h, k => ⟨h.1, Lv_append ts vs ts' vs' h.2 k⟩
  | [], _ :: _, _, _, h, _ => h.elim
  | _ :: _, [], _, _, h, _ => h.elim
theorem Lv_cons {R : TypeId → Value → Prop} {t : TypeId} {ts : List TypeId} {l : List Value} (h : Lv R (t :: ts) l) : ∃ v vs, l = v :: vs ∧ R t v ∧ Lv R ts vs := by
  cases l with
  | nil => exact h.elim
  | cons v vs => exact ⟨v, vs, rfl, h.1, h.2⟩
theorem Lv_nil {R : TypeId → Value → Prop} {l : List Value} (h : Lv R [] l) : l = [] := by
  cases l with
  | nil => rfl
  | cons v vs => exact h.elim

def leavesOf (P : Program) : Nat → TypeId → List TypeId
  | 0, t => [t]
  | n + 1, t => match P.underlying t with
    | some (.struct fs) => fs.toList.flatMap fun f => leavesOf P n f.type
    | _ => [t]
def contigF (P : Program) (c : TypeId → Bool) (tot : Nat) : Nat → List Field → Bool
  | off, [] => decide (off = tot)
  | off, f :: fs => decide (f.offset = off) && (c f.type && contigF P c tot (off + P.cellsOf f.type) fs)
def contig (P : Program) : Nat → TypeId → Bool
  | 0, t => decide (P.cellsOf t = 1)
  | n + 1, t => match P.underlying t with
    | some (.struct fs) => contigF P (contig P n) (P.cellsOf t) 0 fs.toList
    | _ => decide (P.cellsOf t = 1)

def Leaf (enc : TypeId × Value → H) (P : Program) (w : World) (base : Nat) (spare : Nat → Bool) (held : Bool) (t : TypeId) (v : Value) : Prop := ∃ m y, DataW.trod enc P w base spare held m t [v] = some y

theorem contigF_le {c : TypeId → Bool} {tot : Nat} : ∀ (fs : List Field) (off : Nat), contigF P c tot off fs = true → off ≤ tot
  | [], off, h => by simp [contigF] at h; omega
  | f :: fs, off, h => by
    simp [contigF] at h
    have := contigF_le fs _ h.2.2
    omega

theorem leaf_one {t : TypeId} {fuel : Nat} {cs : List Value} {x : DataW H × List MemPlace} (h1 : P.cellsOf t = 1) (hl : cs.length = P.cellsOf t) (h : DataW.trod enc P w base spare held fuel t cs = some x) :
    Lv (Leaf enc P w base spare held) [t] cs := by
  match cs, hl with
  | [v], _ => exact ⟨⟨fuel, x, h⟩, trivial⟩
  | [], hl => simp [h1] at hl
  | _ :: _ :: _, hl => simp [h1] at hl

theorem open_fields {n : Nat} {k : Nat} {cs : List Value} {tot : Nat} (hc : cs.length = tot)
    (ih : ∀ t, contig P n t = true → ∀ fuel cs x, cs.length = P.cellsOf t → DataW.trod enc P w base spare held fuel t cs = some x → Lv (Leaf enc P w base spare held) (leavesOf P n t) cs) :
    ∀ (fs : List Field) (off : Nat), contigF P (contig P n) tot off fs = true →
      (∀ f, f ∈ fs → ∃ y, DataW.trod enc P w base spare held k f.type ((cs.drop f.offset).take (P.cellsOf f.type)) = some y) →
      Lv (Leaf enc P w base spare held) (fs.flatMap fun f => leavesOf P n f.type) (cs.drop off)
  | [], off, h, _ => by
    simp [contigF] at h
    rw [List.drop_eq_nil_of_le (by omega)]
    exact trivial
  | f :: fs, off, h, hf => by
    simp [contigF] at h
    obtain ⟨ho, hk, hr⟩ := h
    obtain ⟨y, hy⟩ := hf f (by simp)
    rw [ho] at hy
    have hle := contigF_le fs _ hr
    have e : cs.drop off = (cs.drop off).take (P.cellsOf f.type) ++ cs.drop (off + P.cellsOf f.type) := by
      rw [← List.drop_drop]; exact (List.take_append_drop _ _).symm
    rw [e, List.flatMap_cons]
    refine Lv_append _ _ _ _ (ih f.type hk k _ y ?_ hy) (open_fields hc ih fs _ hr fun g hg => hf g (by simp [hg]))
    rw [List.length_take, List.length_drop]
    omega

theorem open_leaves : ∀ (n : Nat) (t : TypeId), contig P n t = true → ∀ (fuel : Nat) (cs : List Value) (x : DataW H × List MemPlace), cs.length = P.cellsOf t → DataW.trod enc P w base spare held fuel t cs = some x →
    Lv (Leaf enc P w base spare held) (leavesOf P n t) cs
  | 0, t, h, fuel, cs, x, hl, hx => by
    simp [contig] at h
    exact leaf_one h hl hx
  | n + 1, t, h, fuel, cs, x, hl, hx => by
    unfold contig at h
    unfold leavesOf
    cases hu : P.underlying t with
    | none => rw [hu] at h; simp at h; exact leaf_one h hl hx
    | some u =>
      rw [hu] at h
      cases u with
      | struct fs =>
        simp only at h ⊢
        obtain ⟨xs, k, _, _, _, hlen, hf⟩ := DataW.trod_struct hu hx
        have := open_fields (k := k) (cs := cs) hl (open_leaves n) fs.toList 0 h (fun f hfm => by
          obtain ⟨i, hi, e⟩ := List.getElem_of_mem hfm
          have hi' : i < fs.size := by simpa using hi
          have e' : fs[i]? = some f := by rw [Array.getElem?_eq_getElem hi']; simpa using e
          have := hf i f e'
          rw [List.getElem?_eq_getElem (by omega)] at this
          exact ⟨_, this⟩)
        simpa using this
      | _ => simp at h; exact leaf_one h hl hx

theorem leaf_int {t : TypeId} {k : IntKind} {v : Value} (ht : P.underlying t = some (.int k)) (h : Leaf enc P w base spare held t v) : ∃ n, v = .int k n ∧ (Lit.int k n).wf = true := by
  obtain ⟨m, y, hy⟩ := h
  obtain ⟨n, e, _, hw⟩ := DataW.trod_int ht hy
  simp at e
  exact ⟨n, e, hw⟩
theorem leaf_bool {t : TypeId} {v : Value} (ht : P.underlying t = some .bool) (h : Leaf enc P w base spare held t v) : ∃ b, v = .bool b := by
  obtain ⟨m, y, hy⟩ := h
  obtain ⟨n, e, _⟩ := DataW.trod_bool ht hy
  simp at e
  exact ⟨n, e⟩
theorem wf64 {n : Int} (h : (Lit.int .i64 n).wf = true) : -9223372036854775808 ≤ n ∧ n ≤ 9223372036854775807 := by
  simp only [Lit.wf, Bool.and_eq_true, decide_eq_true_eq] at h
  have e1 : IntKind.min .i64 = -9223372036854775808 := by decide
  have e2 : IntKind.max .i64 = 9223372036854775807 := by decide
  omega
end leaves
end Go.Proofs.Ytachkhjbckapoaa

namespace Go.Proofs.Ytachkhjbckapoaa
open Go.RowKit
set_option linter.unusedVariables false
set_option maxRecDepth 100000
set_option linter.unusedSimpArgs false

/-- A word turned by k places to the right (k from 0 to 31). -/
def rotN (x k : Nat) : Nat := x / 2 ^ k + x % 2 ^ k * 2 ^ (32 - k)
def chN (e f g : Nat) : Nat := (e &&& f) ^^^ ((4294967295 ^^^ e) &&& g)
def majN (a b c : Nat) : Nat := ((a &&& b) ^^^ (a &&& c)) ^^^ (b &&& c)
def sg0 (x : Nat) : Nat := (rotN x 7 ^^^ rotN x 18) ^^^ x / 8
def sg1 (x : Nat) : Nat := (rotN x 17 ^^^ rotN x 19) ^^^ x / 1024
def bs0 (x : Nat) : Nat := (rotN x 2 ^^^ rotN x 13) ^^^ rotN x 22
def bs1 (x : Nat) : Nat := (rotN x 6 ^^^ rotN x 11) ^^^ rotN x 25

theorem pow_split {k : Nat} (hk : k ≤ 32) : (2 : Nat) ^ k * 2 ^ (32 - k) = 4294967296 := by
  rw [← Nat.pow_add, show k + (32 - k) = 32 by omega]
theorem rot_lt {x k : Nat} (hx : x < 4294967296) (hk : k ≤ 32) : rotN x k < 4294967296 := by
  unfold rotN
  have h := pow_split hk
  have hp : 0 < (2 : Nat) ^ k := Nat.two_pow_pos k
  have h1 : x / 2 ^ k < 2 ^ (32 - k) := by rw [Nat.div_lt_iff_lt_mul hp, Nat.mul_comm, h]; exact hx
  have h2 : x % 2 ^ k ≤ 2 ^ k - 1 := by have := Nat.mod_lt x hp; omega
  have h3 : x % 2 ^ k * 2 ^ (32 - k) ≤ (2 ^ k - 1) * 2 ^ (32 - k) := Nat.mul_le_mul_right _ h2
  rw [Nat.sub_mul, h, Nat.one_mul] at h3
  have h4 : 2 ^ (32 - k) ≤ 4294967296 := by rw [← h]; exact Nat.le_mul_of_pos_left _ hp
  omega
/-- The program's way: two shifts and an or. -/
theorem rot_or {x k : Nat} (hx : x < 4294967296) (hk : k ≤ 32) : x / 2 ^ k ||| x * 2 ^ (32 - k) % 4294967296 = rotN x k := by
  have h := pow_split hk
  have hp : 0 < (2 : Nat) ^ k := Nat.two_pow_pos k
  have h1 : x / 2 ^ k < 2 ^ (32 - k) := by rw [Nat.div_lt_iff_lt_mul hp, Nat.mul_comm, h]; exact hx
  have e : x * 2 ^ (32 - k) % 4294967296 = x % 2 ^ k * 2 ^ (32 - k) := by rw [← h, Nat.mul_mod_mul_right]
  rw [e, Nat.or_comm, Nat.mul_comm, ← Nat.two_pow_add_eq_or_of_lt h1]
  unfold rotN
  rw [Nat.mul_comm, Nat.add_comm]
/-- The document's way: one place at a time. -/
theorem rot_step {x k : Nat} (hx : x < 4294967296) (hk : k < 32) : rotN x k / 2 + rotN x k % 2 * 2147483648 = rotN x (k + 1) := by
  unfold rotN
  obtain ⟨j, hj⟩ : ∃ j, 32 - k = j + 1 := ⟨31 - k, by omega⟩
  have hj2 : 32 - (k + 1) = j := by omega
  rw [hj, hj2, Nat.pow_succ, Nat.pow_succ]
  have hp : 0 < (2 : Nat) ^ k := Nat.two_pow_pos k
  have h := pow_split (show k ≤ 32 by omega)
  rw [hj, Nat.pow_succ] at h
  have e1 : x / 2 ^ k + x % 2 ^ k * (2 ^ j * 2) = x / 2 ^ k + 2 * (x % 2 ^ k * 2 ^ j) := by
    rw [← Nat.mul_assoc, Nat.mul_comm 2]
  have e2 : x / (2 ^ k * 2) = x / 2 ^ k / 2 := by rw [Nat.div_div_eq_div_mul]
  have e3 : x % (2 ^ k * 2) = x % 2 ^ k + 2 ^ k * (x / 2 ^ k % 2) := by rw [Nat.mod_mul]
  have e4 : (2 ^ k * (x / 2 ^ k % 2)) * 2 ^ j = x / 2 ^ k % 2 * 2147483648 := by
    have : 2 ^ k * 2 ^ j = 2147483648 := by
      have h' : 2 ^ k * 2 ^ j * 2 = 4294967296 := by rw [Nat.mul_assoc]; exact h
      omega
    rw [Nat.mul_right_comm, this, Nat.mul_comm]
  rw [e1, e2, e3, Nat.add_mul, e4]
  have m1 : (x / 2 ^ k + 2 * (x % 2 ^ k * 2 ^ j)) / 2 = x / 2 ^ k / 2 + x % 2 ^ k * 2 ^ j := by omega
  have m2 : (x / 2 ^ k + 2 * (x % 2 ^ k * 2 ^ j)) % 2 = x / 2 ^ k % 2 := by omega
  rw [m1, m2, Nat.add_assoc]
theorem rot_zero (x : Nat) : rotN x 0 = x := by simp [rotN, Nat.mod_one]

theorem lt_two32 {x : Nat} : x < 4294967296 ↔ x < 2 ^ 32 := by simp
theorem xor_lt {x y : Nat} (hx : x < 4294967296) (hy : y < 4294967296) : x ^^^ y < 4294967296 := lt_two32.2 (Nat.xor_lt_two_pow (lt_two32.1 hx) (lt_two32.1 hy))
theorem and_lt {x y : Nat} (hx : x < 4294967296) : x &&& y < 4294967296 := Nat.lt_of_le_of_lt Nat.and_le_left hx
theorem and_lt' {x y : Nat} (hy : y < 4294967296) : x &&& y < 4294967296 := Nat.lt_of_le_of_lt Nat.and_le_right hy
theorem ch_lt {e f g : Nat} (hf : f < 4294967296) (hg : g < 4294967296) : chN e f g < 4294967296 := xor_lt (and_lt' hf) (and_lt' hg)
theorem maj_lt {a b c : Nat} (ha : a < 4294967296) (hb : b < 4294967296) : majN a b c < 4294967296 := xor_lt (xor_lt (and_lt ha) (and_lt ha)) (and_lt hb)
theorem sg0_lt {x : Nat} (hx : x < 4294967296) : sg0 x < 4294967296 := xor_lt (xor_lt (rot_lt hx (by decide)) (rot_lt hx (by decide))) (Nat.lt_of_le_of_lt (Nat.div_le_self _ _) hx)
theorem sg1_lt {x : Nat} (hx : x < 4294967296) : sg1 x < 4294967296 := xor_lt (xor_lt (rot_lt hx (by decide)) (rot_lt hx (by decide))) (Nat.lt_of_le_of_lt (Nat.div_le_self _ _) hx)
theorem bs0_lt {x : Nat} (hx : x < 4294967296) : bs0 x < 4294967296 := xor_lt (xor_lt (rot_lt hx (by decide)) (rot_lt hx (by decide))) (rot_lt hx (by decide))
theorem bs1_lt {x : Nat} (hx : x < 4294967296) : bs1 x < 4294967296 := xor_lt (xor_lt (rot_lt hx (by decide)) (rot_lt hx (by decide))) (rot_lt hx (by decide))

theorem bit_val (x k : Nat) : x / 2 ^ k % 2 = (x.testBit k).toNat := by rw [Nat.testBit_eq_decide_div_mod_eq]; rcases Nat.mod_two_eq_zero_or_one (x / 2 ^ k) with h | h <;> simp [h]
theorem mod_succ' (x k : Nat) : x % 2 ^ (k + 1) = x % 2 ^ k + x / 2 ^ k % 2 * 2 ^ k := by rw [Nat.pow_succ, Nat.mod_mul, Nat.mul_comm (2 ^ k)]
theorem ch_bit {e f g k : Nat} (hk : k < 32) : chN e f g / 2 ^ k % 2 = if e / 2 ^ k % 2 = 1 then f / 2 ^ k % 2 else g / 2 ^ k % 2 := by
  simp only [bit_val]
  unfold chN
  have hM : (4294967295 : Nat).testBit k = true := by
    have : (4294967295 : Nat) = 2 ^ 32 - 1 := by decide
    rw [this, Nat.testBit_two_pow_sub_one]; simpa using hk
  rw [Nat.testBit_xor, Nat.testBit_and, Nat.testBit_and, Nat.testBit_xor, hM]
  cases e.testBit k <;> cases f.testBit k <;> cases g.testBit k <;> simp
theorem maj_bit {a b c k : Nat} : majN a b c / 2 ^ k % 2 = if 2 ≤ a / 2 ^ k % 2 + b / 2 ^ k % 2 + c / 2 ^ k % 2 then 1 else 0 := by
  simp only [bit_val]
  unfold majN
  rw [Nat.testBit_xor, Nat.testBit_xor, Nat.testBit_and, Nat.testBit_and, Nat.testBit_and]
  cases a.testBit k <;> cases b.testBit k <;> cases c.testBit k <;> simp

def kN : List Nat := [0x428a2f98, 0x71374491, 0xb5c0fbcf, 0xe9b5dba5, 0x3956c25b, 0x59f111f1, 0x923f82a4, 0xab1c5ed5, 0xd807aa98, 0x12835b01, 0x243185be, 0x550c7dc3, 0x72be5d74, 0x80deb1fe, 0x9bdc06a7, 0xc19bf174, 0xe49b69c1, 0xefbe4786, 0x0fc19dc6, 0x240ca1cc, 0x2de92c6f, 0x4a7484aa, 0x5cb0a9dc, 0x76f988da, 0x983e5152, 0xa831c66d, 0xb00327c8, 0xbf597fc7, 0xc6e00bf3, 0xd5a79147, 0x06ca6351, 0x14292967, 0x27b70a85, 0x2e1b2138, 0x4d2c6dfc, 0x53380d13, 0x650a7354, 0x766a0abb, 0x81c2c92e, 0x92722c85, 0xa2bfe8a1, 0xa81a664b, 0xc24b8b70, 0xc76c51a3, 0xd192e819, 0xd6990624, 0xf40e3585, 0x106aa070, 0x19a4c116, 0x1e376c08, 0x2748774c, 0x34b0bcb5, 0x391c0cb3, 0x4ed8aa4a, 0x5b9cca4f, 0x682e6ff3, 0x748f82ee, 0x78a5636f, 0x84c87814, 0x8cc70208, 0x90befffa, 0xa4506ceb, 0xbef9a3f7, 0xc67178f2]
def h0N : List Nat := [0x6a09e667, 0xbb67ae85, 0x3c6ef372, 0xa54ff53a, 0x510e527f, 0x9b05688c, 0x1f83d9ab, 0x5be0cd19]
/-- All are words of 32 bits. -/
def W32 (l : List Nat) : Prop := ∀ x ∈ l, x < 4294967296
theorem W32.at_ {l : List Nat} (h : W32 l) (i : Nat) : l.getD i 0 < 4294967296 := by
  rw [List.getD_eq_getElem?_getD]
  cases e : l[i]? with
  | none => simp
  | some x => simpa using h x (List.mem_of_getElem? e)
theorem k_W32 : W32 kN := by unfold W32 kN; decide
theorem h0_W32 : W32 h0N := by unfold W32 h0N; decide
/-- The word behind l (of 16 words or more) in the schedule. -/
def nextW (l : List Nat) : Nat := (((l.getD (l.length - 16) 0 + sg0 (l.getD (l.length - 15) 0)) % 4294967296 + l.getD (l.length - 7) 0) % 4294967296 + sg1 (l.getD (l.length - 2) 0)) % 4294967296
def schedN : Nat → List Nat → List Nat
  | 0, l => l
  | n + 1, l => schedN n (l ++ [nextW l])
theorem next_lt (l : List Nat) : nextW l < 4294967296 := Nat.mod_lt _ (by decide)
theorem sched_len : ∀ (n : Nat) (l : List Nat), (schedN n l).length = l.length + n
  | 0, l => rfl
  | n + 1, l => by rw [schedN, sched_len n]; simp; omega
theorem sched_W32 : ∀ (n : Nat) (l : List Nat), W32 l → W32 (schedN n l)
  | 0, l, h => h
  | n + 1, l, h => sched_W32 n _ (fun x hx => by
    rcases List.mem_append.1 hx with hx | hx
    · exact h x hx
    · simp at hx; rw [hx]; exact next_lt l)
theorem sched_snoc : ∀ (n : Nat) (l : List Nat), schedN (n + 1) l = schedN n l ++ [nextW (schedN n l)]
  | 0, l => rfl
  | n + 1, l => by rw [schedN, sched_snoc n]; rfl
def t1N (v : List Nat) (k w : Nat) : Nat := ((((v.getD 7 0 + bs1 (v.getD 4 0)) % 4294967296 + chN (v.getD 4 0) (v.getD 5 0) (v.getD 6 0)) % 4294967296 + k) % 4294967296 + w) % 4294967296
def t2N (v : List Nat) : Nat := (bs0 (v.getD 0 0) + majN (v.getD 0 0) (v.getD 1 0) (v.getD 2 0)) % 4294967296
def rndN (v : List Nat) (k w : Nat) : List Nat := [(t1N v k w + t2N v) % 4294967296, v.getD 0 0, v.getD 1 0, v.getD 2 0, (v.getD 3 0 + t1N v k w) % 4294967296, v.getD 4 0, v.getD 5 0, v.getD 6 0]
def rndsN : List Nat → List Nat → List Nat → List Nat
  | k :: ks, w :: ws, v => rndsN ks ws (rndN v k w)
  | _, _, v => v
def addN (v h : List Nat) : List Nat := List.zipWith (fun x y => (x + y) % 4294967296) v h
def blockN (h w : List Nat) : List Nat := addN (rndsN kN (schedN 48 w) h) h
theorem rnd_len (v : List Nat) (k w : Nat) : (rndN v k w).length = 8 := rfl
theorem rnd_W32 {v : List Nat} (h : W32 v) (k w : Nat) : W32 (rndN v k w) := by
  intro x hx
  simp only [rndN, List.mem_cons, List.not_mem_nil, or_false] at hx
  rcases hx with rfl | rfl | rfl | rfl | rfl | rfl | rfl | rfl
  all_goals first | exact Nat.mod_lt _ (by decide) | exact h.at_ _
theorem block_len {h w : List Nat} (hh : h.length = 8) : (blockN h w).length = 8 := by
  have : ∀ (ks ws v : List Nat), v.length = 8 → (rndsN ks ws v).length = 8 := by
    intro ks
    induction ks with
    | nil => intro ws v hv; exact hv
    | cons k ks ih => intro ws v hv; cases ws with
      | nil => exact hv
      | cons w ws => exact ih ws _ rfl
  unfold blockN addN
  rw [List.length_zipWith, this _ _ _ hh, hh]; rfl
theorem block_W32 {h w : List Nat} : W32 (blockN h w) := by
  intro x hx
  unfold blockN addN at hx
  obtain ⟨i, hi, rfl⟩ := List.mem_iff_getElem.1 hx
  rw [List.getElem_zipWith]
  exact Nat.mod_lt _ (by decide)
end Go.Proofs.Ytachkhjbckapoaa

namespace Go.Proofs.Ytachkhjbckapoaa
open Go.RowKit
set_option linter.unusedVariables false
set_option maxRecDepth 100000

/-- The slice at A reads as the numbers l. -/
def RdI (w : World) (k : IntKind) (A : Option Addr) (l : List Int) : Prop :=
  l = [] ∨ ∃ ad, A = some ad ∧ ad.block < w.heap.size ∧ ∀ j, j < l.length → w.cell? (ad.add j) = some (.int k (l.getD j 0))

theorem add_block (a : Addr) (i : Nat) : (a.add i).block = a.block := by unfold Addr.add; split <;> rfl
theorem add_add (a : Addr) (i j : Nat) : (a.add i).add j = a.add (i + j) := by
  unfold Addr.add
  by_cases hi : i = 0
  · subst hi; simp
  · by_cases hj : j = 0
    · subst hj; simp [hi]
    · simp [hi, hj, Nat.add_assoc]
theorem add_succ (a : Addr) (j : Nat) : a.add (j + 1) = ⟨a.block, a.off + (j + 1), none⟩ := by unfold Addr.add; simp
theorem add_zero (a : Addr) : a.add 0 = a := by unfold Addr.add; simp

section
variable {w w' : World} {k : IntKind} {A : Option Addr} {l : List Int}
theorem RdI.nil (w : World) (k : IntKind) (A : Option Addr) : RdI w k A [] := .inl rfl
theorem RdI.at_ (h : RdI w k A l) {j : Nat} (hj : j < l.length) : ∃ ad, A = some ad ∧ w.cell? (ad.add j) = some (.int k (l.getD j 0)) := by
  rcases h with rfl | ⟨ad, e, _, hc⟩
  · simp at hj
  · exact ⟨ad, e, hc j hj⟩
theorem RdI.below (h : RdI w k A l) (hb : Below w.heap.size w w') : RdI w' k A l := by
  rcases h with rfl | ⟨ad, e, hlt, hc⟩
  · exact .inl rfl
  · exact .inr ⟨ad, e, Nat.lt_of_lt_of_le hlt hb.size, fun j hj => (hb.cell (p := ad.add j) (by rw [add_block]; exact hlt)).trans (hc j hj)⟩
theorem RdI.keep (h : RdI w k A l) (hs : w.heap.size ≤ w'.heap.size) (hb : ∀ b, b < w.heap.size → w'.heap[b]? = w.heap[b]?) : RdI w' k A l := by
  rcases h with rfl | ⟨ad, e, hlt, hc⟩
  · exact .inl rfl
  · exact .inr ⟨ad, e, Nat.lt_of_lt_of_le hlt hs, fun j hj => (World.cell?_of_block (hb (ad.add j).block (by rw [add_block]; exact hlt))).trans (hc j hj)⟩
theorem RdI.of_own {base e : Nat} {c : Nat} (h : w.ownsRow base e 1 (.slice A l.length c) l.length (l.map (.int k))) : RdI w k A l := by
  by_cases hl : l = []
  · exact .inl hl
  · have hp : 0 < l.length := List.length_pos_iff.mpr hl
    rcases h.2 with ⟨_, h0⟩ | ⟨g, cap, cur, hv, _, hh, _⟩
    · omega
    · have hA : A = some ⟨g, 0, none⟩ := by injection hv
      subst hA
      refine .inr ⟨_, rfl, (h.lt g rfl).2, fun j hj => h.cells rfl j _ ?_⟩
      rw [List.getElem?_map, List.getElem?_eq_getElem hj]
      simp [hj]
theorem own_slice {base e n : Nat} {v : Value} {cs : List Value} (h : w.ownsRow base e 1 v n cs) : ∃ A c, v = .slice A n c ∧ n ≤ c ∧ c ≤ maxLen := by
  rcases h.2 with ⟨rfl, rfl⟩ | ⟨g, cap, cur, rfl, _, _, h1, h2, _⟩
  · exact ⟨none, 0, rfl, Nat.le_refl _, by simp [maxLen]⟩
  · exact ⟨_, cap, rfl, h1, h2⟩
theorem own_below {base e n size : Nat} {v : Value} {cs : List Value} (h : w.ownsRow base e size v n cs) (hb : Below w.heap.size w w') : w'.ownsRow base e size v n cs := by
  obtain ⟨h1, h2⟩ := h
  refine ⟨h1, h2.imp id fun ⟨g, cap, cur, e1, e2, e3, e4⟩ => ⟨g, cap, cur, e1, e2, ?_, e4⟩⟩
  have hlt : g < w.heap.size := by
    rcases Nat.lt_or_ge g w.heap.size with h | h
    · exact h
    · rw [Array.getElem?_eq_none h] at e3; cases e3
  exact (hb.block g hlt).trans e3
theorem own_base {base base' e n size : Nat} {v : Value} {cs : List Value} (h : w.ownsRow base e size v n cs) (hb : base' ≤ base) : w.ownsRow base' e size v n cs := by
  obtain ⟨h1, h2⟩ := h
  exact ⟨h1, h2.imp id fun ⟨g, cap, cur, e1, e2, e3⟩ => ⟨g, cap, cur, e1, Nat.le_trans hb e2, e3⟩⟩
end
theorem drop_cons {l : List Int} {k : Nat} (h : k < l.length) : l.drop k = l.getD k 0 :: l.drop (k + 1) := by
  rw [List.drop_eq_getElem_cons h]; simp [h]
theorem bG {w W w2 : World} {row : Option Nat} (h : Below w.heap.size w W) (hg : W.grownBy w2 row) (hr : ∀ k, row = some k → w.heap.size ≤ k) : Below w.heap.size w w2 := h.grown hg h.size hr
theorem own_ge {w : World} {base e n size : Nat} {v : Value} {cs : List Value} (h : w.ownsRow base e size v n cs) : ∀ k, v.ownBlock = some k → base ≤ k := fun k hk => (h.lt k hk).1
theorem one_ints (k : IntKind) (l : List Int) : ∀ u ∈ l.map (Value.int k), u.oneCell' = true := by
  intro u hu
  obtain ⟨x, _, rfl⟩ := List.mem_map.1 hu
  rfl
theorem RdI.lit1 (w : World) (k : IntKind) (x : Int) (t : TypeId) : RdI (w.alloc (.cells #[.int k x] t)) k (some ⟨w.heap.size, 0, none⟩) [x] := by
  refine .inr ⟨_, rfl, by simp, fun j hj => ?_⟩
  have : j = 0 := by simp at hj; omega
  subst this
  rw [add_zero, World.cell?_alloc_at _ _ _ _ rfl]; rfl
theorem RdI.lit (w : World) (k : IntKind) (l : List Int) (t : TypeId) : RdI (w.alloc (.cells (l.map (Value.int k)).toArray t)) k (some ⟨w.heap.size, 0, none⟩) l := by
  refine .inr ⟨_, rfl, by simp, fun j hj => ?_⟩
  have e : (⟨w.heap.size, 0, none⟩ : Addr).add j = ⟨w.heap.size, j, none⟩ := by
    unfold Addr.add; by_cases h : j = 0 <;> simp [h]
  rw [e, cell_of_row _ w.heap.size j _ t (0, 0) (heap_alloc_new w _)]
  simp [hj]
theorem RdI.lit2a (w : World) (k : IntKind) (l : List Int) (t : TypeId) (o : Obj) : RdI ((w.alloc (.cells (l.map (Value.int k)).toArray t)).alloc o) k (some ⟨w.heap.size, 0, none⟩) l := (RdI.lit w k l t).below (bel1 _ _)
theorem RdI.lit2b (w : World) (k : IntKind) (l : List Int) (t : TypeId) (o : Obj) : RdI ((w.alloc o).alloc (.cells (l.map (Value.int k)).toArray t)) k (some ⟨w.heap.size + 1, 0, none⟩) l := by
  have h := RdI.lit (w.alloc o) k l t
  rwa [World.size_alloc] at h
theorem RdI.lit2a' {w : World} {k : IntKind} {l : List Int} {t : TypeId} {o : Obj} {n : Nat} (h : w.heap.size = n) : RdI ((w.alloc (.cells (l.map (Value.int k)).toArray t)).alloc o) k (some ⟨n, 0, none⟩) l := by subst h; exact RdI.lit2a w k l t o
theorem RdI.lit2b' {w : World} {k : IntKind} {l : List Int} {t : TypeId} {o : Obj} {n : Nat} (h : w.heap.size + 1 = n) : RdI ((w.alloc o).alloc (.cells (l.map (Value.int k)).toArray t)) k (some ⟨n, 0, none⟩) l := by subst h; exact RdI.lit2b w k l t o
theorem RdI.lit' {w : World} {k : IntKind} {l : List Int} {t : TypeId} {n : Nat} (h : w.heap.size = n) : RdI (w.alloc (.cells (l.map (Value.int k)).toArray t)) k (some ⟨n, 0, none⟩) l := by subst h; exact RdI.lit w k l t
theorem own_lit1 (w : World) (k : IntKind) (x : Int) (e : TypeId) : (w.alloc (.cells #[.int k x] e)).ownsRow w.heap.size e 1 (.slice (some ⟨w.heap.size, 0, none⟩) 1 1) [x].length ([x].map (.int k)) :=
  World.ownsRow_lit w #[.int k x] 1 (Nat.le_refl _) (by simp [maxLen]) (by simp)
theorem own_lit0 (w : World) (e : TypeId) (k : IntKind) : (w.alloc (.cells #[] e)).ownsRow w.heap.size e 1 (.slice (some ⟨w.heap.size, 0, none⟩) 0 0) ([] : List Int).length (([] : List Int).map (.int k)) :=
  World.ownsRow_lit w #[] 0 (Nat.le_refl _) (by simp [maxLen]) (by simp)

theorem run_append_nilsrc {P : Program} (w : World) (base : Nat) (t ty e : TypeId) (i : TypeInfo) (size : Nat) (ht : P.underlying t = some (.slice e)) (hi : P.info? e = some i)
    (v : Value) (n : Nat) (xs : List Value) (hown : w.ownsRow base e size v n xs) (c : Nat) : (Builtin.append_ #[t, t] ty #[v, .slice none 0 c]).run P w = .ok v w := by
  rcases hown.2 with ⟨rfl, rfl⟩ | ⟨g, cap, cur, rfl, _, _, hnc, _⟩
  · simp [Builtin.append_, run_underlying ht, sizeOf, typeInfo, hi, Builtin.lenOf, Builtin.firstCells]
  · simp [Builtin.append_, run_underlying ht, sizeOf, typeInfo, hi, Builtin.lenOf, Builtin.firstCells, hnc, storeCells]

/-- append(v, ys...), v a row of the call's own, ys what is read: a row of both. -/
theorem wpL_app {P : Program} {w : World} {ops : Array Oper} {rest : List Oper} {o : Oper} {a : Act} {Q : Exit → Act → World → Prop} {k : IntKind} (hgd : o.guard = none) (s x : Operand) (t : TypeId)
    (ho : o.op = .call { callee := .builtin .append, args := #[s, x], argTypes := #[t, t] })
    (base : Nat) (e : TypeId) (i : TypeInfo) (z : Value) (bytes : Nat) (ht : P.underlying t = some (.slice e)) (hi : P.info? e = some i) (hz : i.zero = some z)
    (hsize : i.size = 1) (hby : i.bytes = bytes) (hzs : z.cells.size = 1)
    (v : Value) (xs : List Int) (hs : a.eval s = v) (hown : w.ownsRow base e 1 v xs.length (xs.map (.int k)))
    (A : Option Addr) (c : Nat) (ys : List Int) (hx : a.eval x = .slice A ys.length c) (hr : RdI w k A ys)
    (h63 : xs.length + ys.length ≤ maxLen) (hbytes : (xs.length + ys.length) * bytes ≤ 140737488355328) (hbase : base ≤ w.heap.size)
    (h : ∀ v' w', w'.ownsRow base e 1 v' (xs ++ ys).length ((xs ++ ys).map (.int k)) → w.grownBy w' v.ownBlock → (v'.ownBlock = v.ownBlock ∨ v'.ownBlock = some w.heap.size) → wpList P ops Q rest (a.put o.dst v') w') :
    wpList P ops Q (o :: rest) a w := by
  rcases A with _ | ad
  · have hy : ys = [] := by
      rcases hr with h | ⟨ad, h, _⟩
      · exact h
      · cases h
    subst hy
    refine wpList_plain hgd fun K hK => ?_
    have hrun := run_append_nilsrc (P := P) w base t o.type e i 1 ht hi v _ _ hown c
    unfold Oper.wp execOp
    simp only [ho, resolve, invoke, builtin, Sem.run_bind, Sem.run_pure, Result.andThen_ok, List.map_toArray, List.map_cons, List.map_nil, hs, hx, List.length_nil, hrun]
    exact hK _ _ (h v w (by simpa using hown) (World.grownBy.refl w _) (.inl rfl))
  · have hc : ∀ j u, (ys.map (Value.int k))[j]? = some u → w.cell? (ad.add j) = some u := by
      intro j u hu
      rcases hr with rfl | ⟨ad', h', _, hc⟩
      · simp at hu
      · obtain rfl := Option.some.inj h'
        rw [List.getElem?_map] at hu
        by_cases hj : j < ys.length
        · rw [hc j hj]; simpa [hj] using hu
        · simp [hj] at hu
    refine wpList_append_own_at w hgd s x t ho base e i z 1 bytes ht hi hz hsize hby hzs (by omega) v xs.length (xs.map (.int k)) hs hown ad ys.length c (ys.map (.int k)) hx (by simp) hc (one_ints _ _) h63 hbytes hbase ?_
    intro v' w' h1 h2 h3 h4
    exact h v' w' (by simpa using h1) h2 h4
def IsRow (k : IntKind) (w : World) (a : Option Addr) (len cap : Nat) (zs : List Int) : Prop :=
  (a = none ∧ len = 0 ∧ cap = 0 ∧ zs = []) ∨
  ∃ x, a = some x ∧ len ≤ cap ∧ cap ≤ maxLen ∧ zs.length = cap ∧ (∀ i, i < zs.length → w.cell? (x.add i) = some (.int k (zs.getD i 0))) ∧ ∀ n ∈ zs, (Lit.int k n).wf = true
theorem rd_of_row {k : IntKind} {w : World} {a : Option Addr} {len cap : Nat} {zs : List Int} (h : IsRow k w a len cap zs) :
    ∃ l : List Int, len = l.length ∧ RdI w k a l ∧ l.length ≤ 9223372036854775807 ∧ ∀ x ∈ l, (Lit.int k x).wf = true := by
  rcases h with ⟨rfl, rfl, rfl, rfl⟩ | ⟨x, rfl, hl, hm, hz, hc, hw⟩
  · exact ⟨[], rfl, .inl rfl, by simp, by simp⟩
  · have hlen : (zs.take len).length = len := by rw [List.length_take]; omega
    unfold maxLen at hm
    refine ⟨zs.take len, hlen.symm, ?_, by omega, fun y hy => hw y (List.mem_of_mem_take hy)⟩
    by_cases h0 : len = 0
    · left; rw [h0]; rfl
    · right
      refine ⟨x, rfl, ?_, fun j hj => ?_⟩
      · have := World.block_lt_of_cell? w _ (hc 0 (by omega))
        rwa [add_block] at this
      · rw [hc j (by omega)]
        congr 2
        rw [List.getD_eq_getElem?_getD, List.getD_eq_getElem?_getD, List.getElem?_take, if_pos (by omega)]
theorem wfu8 {l : List Int} (h : ∀ x ∈ l, (Lit.int .u8 x).wf = true) : ∀ x ∈ l, 0 ≤ x ∧ x < 256 := by
  intro x hx
  have h := h x hx
  simp only [Lit.wf, Bool.and_eq_true, decide_eq_true_eq] at h
  have e1 : IntKind.min .u8 = 0 := by decide
  have e2 : IntKind.max .u8 = 255 := by decide
  omega
theorem wfi64 {l : List Int} (h : ∀ x ∈ l, (Lit.int .i64 x).wf = true) : ∀ x ∈ l, -9223372036854775808 ≤ x ∧ x ≤ 9223372036854775807 := fun x hx => wf64 (h x hx)
theorem maxLen_ge {n : Nat} (h : n ≤ 1000000000) : n ≤ maxLen := by unfold maxLen; omega
theorem ob_slice {g n c k : Nat} (h : (Value.slice (some ⟨g, 0, none⟩) n c).ownBlock = some k) : k = g := by simpa [Value.ownBlock, eq_comm] using h
theorem getD_mem {l : List Int} {k : Nat} (h : k < l.length) : l.getD k 0 ∈ l := by
  have e : l.getD k 0 = l[k] := by simp [h]
  rw [e]; exact List.getElem_mem h
end Go.Proofs.Ytachkhjbckapoaa

namespace Go.Proofs.Ytachkhjbckapoaa
open Go.RowKit
set_option linter.unusedVariables false
set_option maxRecDepth 100000
set_option linter.unusedSimpArgs false

theorem wraps_u32 (n : Int) (h0 : 0 ≤ n) (h1 : n < 2 ^ 32) : IntKind.u32.wrap n = n := by rw [IntKind.wrap_u32]; omega
theorem or32 {a b : Nat} (ha : a < 4294967296) (hb : b < 4294967296) : bits .or .u32 (a : Int) (b : Int) = ((a ||| b : Nat) : Int) := (bits_nat .u32 32 (by decide) wraps_u32 a b (by omega) (by omega)).2
theorem and32 {a b : Nat} (ha : a < 4294967296) (hb : b < 4294967296) : bits .and .u32 (a : Int) (b : Int) = ((a &&& b : Nat) : Int) := (bits_nat .u32 32 (by decide) wraps_u32 a b (by omega) (by omega)).1
theorem xor32 {a b : Nat} (ha : a < 4294967296) (hb : b < 4294967296) : bits .xor .u32 (a : Int) (b : Int) = ((a ^^^ b : Nat) : Int) := by
  have hx : a ^^^ b < 2 ^ 32 := Nat.xor_lt_two_pow (by omega) (by omega)
  have h1 : (BitVec.ofInt 32 (a : Int)).toNat = a := by rw [BitVec.ofInt_natCast, BitVec.toNat_ofNat]; exact Nat.mod_eq_of_lt (by omega)
  have h2 : (BitVec.ofInt 32 (b : Int)).toNat = b := by rw [BitVec.ofInt_natCast, BitVec.toNat_ofNat]; exact Nat.mod_eq_of_lt (by omega)
  show IntKind.u32.wrap ((BitVec.ofInt 32 (a : Int) ^^^ BitVec.ofInt 32 (b : Int)).toNat : Int) = _
  rw [BitVec.toNat_xor, h1, h2, IntKind.wrap_u32]
  omega
theorem add32 (a b : Nat) : IntKind.u32.wrap ((a : Int) + (b : Int)) = (((a + b) % 4294967296 : Nat) : Int) := by rw [IntKind.wrap_u32]; omega
theorem rot_val {x k : Nat} (hx : x < 4294967296) (hk : k ≤ 32) : bits .or .u32 ((x : Int) / 2 ^ k) (IntKind.u32.wrap ((x : Int) * 2 ^ (32 - k))) = ((rotN x k : Nat) : Int) := by
  have e1 : ((x : Int) / 2 ^ k) = ((x / 2 ^ k : Nat) : Int) := by simp
  have e2 : IntKind.u32.wrap ((x : Int) * 2 ^ (32 - k)) = ((x * 2 ^ (32 - k) % 4294967296 : Nat) : Int) := by rw [IntKind.wrap_u32]; simp
  rw [e1, e2, or32 (Nat.lt_of_le_of_lt (Nat.div_le_self _ _) hx) (Nat.mod_lt _ (by decide)), rot_or hx hk]

theorem rot2 (x : Nat) (w : World) (hx : x < 4294967296) :
    Calls Try.prog 149 #[.int .u32 (x : Int), .int .i64 2] w fun e w' => e = .returned (.int .u32 ((rotN x 2 : Nat) : Int)) ∧ w = w' := by
  have hb : bits .and .u64 2 31 = 2 := by decide
  go_enter Try.func149, Try.ntmps149
  go_wp2
  go_ret
  exact ⟨by rw [← rot_val hx (by decide)]; rfl, rfl⟩

theorem rot6 (x : Nat) (w : World) (hx : x < 4294967296) :
    Calls Try.prog 149 #[.int .u32 (x : Int), .int .i64 6] w fun e w' => e = .returned (.int .u32 ((rotN x 6 : Nat) : Int)) ∧ w = w' := by
  have hb : bits .and .u64 6 31 = 6 := by decide
  go_enter Try.func149, Try.ntmps149
  go_wp2
  go_ret
  exact ⟨by rw [← rot_val hx (by decide)]; rfl, rfl⟩

theorem rot7 (x : Nat) (w : World) (hx : x < 4294967296) :
    Calls Try.prog 149 #[.int .u32 (x : Int), .int .i64 7] w fun e w' => e = .returned (.int .u32 ((rotN x 7 : Nat) : Int)) ∧ w = w' := by
  have hb : bits .and .u64 7 31 = 7 := by decide
  go_enter Try.func149, Try.ntmps149
  go_wp2
  go_ret
  exact ⟨by rw [← rot_val hx (by decide)]; rfl, rfl⟩

theorem rot11 (x : Nat) (w : World) (hx : x < 4294967296) :
    Calls Try.prog 149 #[.int .u32 (x : Int), .int .i64 11] w fun e w' => e = .returned (.int .u32 ((rotN x 11 : Nat) : Int)) ∧ w = w' := by
  have hb : bits .and .u64 11 31 = 11 := by decide
  go_enter Try.func149, Try.ntmps149
  go_wp2
  go_ret
  exact ⟨by rw [← rot_val hx (by decide)]; rfl, rfl⟩

theorem rot13 (x : Nat) (w : World) (hx : x < 4294967296) :
    Calls Try.prog 149 #[.int .u32 (x : Int), .int .i64 13] w fun e w' => e = .returned (.int .u32 ((rotN x 13 : Nat) : Int)) ∧ w = w' := by
  have hb : bits .and .u64 13 31 = 13 := by decide
  go_enter Try.func149, Try.ntmps149
  go_wp2
  go_ret
  exact ⟨by rw [← rot_val hx (by decide)]; rfl, rfl⟩

theorem rot17 (x : Nat) (w : World) (hx : x < 4294967296) :
    Calls Try.prog 149 #[.int .u32 (x : Int), .int .i64 17] w fun e w' => e = .returned (.int .u32 ((rotN x 17 : Nat) : Int)) ∧ w = w' := by
  have hb : bits .and .u64 17 31 = 17 := by decide
  go_enter Try.func149, Try.ntmps149
  go_wp2
  go_ret
  exact ⟨by rw [← rot_val hx (by decide)]; rfl, rfl⟩

theorem rot18 (x : Nat) (w : World) (hx : x < 4294967296) :
    Calls Try.prog 149 #[.int .u32 (x : Int), .int .i64 18] w fun e w' => e = .returned (.int .u32 ((rotN x 18 : Nat) : Int)) ∧ w = w' := by
  have hb : bits .and .u64 18 31 = 18 := by decide
  go_enter Try.func149, Try.ntmps149
  go_wp2
  go_ret
  exact ⟨by rw [← rot_val hx (by decide)]; rfl, rfl⟩

theorem rot19 (x : Nat) (w : World) (hx : x < 4294967296) :
    Calls Try.prog 149 #[.int .u32 (x : Int), .int .i64 19] w fun e w' => e = .returned (.int .u32 ((rotN x 19 : Nat) : Int)) ∧ w = w' := by
  have hb : bits .and .u64 19 31 = 19 := by decide
  go_enter Try.func149, Try.ntmps149
  go_wp2
  go_ret
  exact ⟨by rw [← rot_val hx (by decide)]; rfl, rfl⟩

theorem rot22 (x : Nat) (w : World) (hx : x < 4294967296) :
    Calls Try.prog 149 #[.int .u32 (x : Int), .int .i64 22] w fun e w' => e = .returned (.int .u32 ((rotN x 22 : Nat) : Int)) ∧ w = w' := by
  have hb : bits .and .u64 22 31 = 22 := by decide
  go_enter Try.func149, Try.ntmps149
  go_wp2
  go_ret
  exact ⟨by rw [← rot_val hx (by decide)]; rfl, rfl⟩

theorem rot25 (x : Nat) (w : World) (hx : x < 4294967296) :
    Calls Try.prog 149 #[.int .u32 (x : Int), .int .i64 25] w fun e w' => e = .returned (.int .u32 ((rotN x 25 : Nat) : Int)) ∧ w = w' := by
  have hb : bits .and .u64 25 31 = 25 := by decide
  go_enter Try.func149, Try.ntmps149
  go_wp2
  go_ret
  exact ⟨by rw [← rot_val hx (by decide)]; rfl, rfl⟩

end Go.Proofs.Ytachkhjbckapoaa

namespace Go.Proofs.Ytachkhjbckapoaa
open Go.RowKit
set_option linter.unusedVariables false
set_option maxRecDepth 100000
set_option linter.unusedSimpArgs false

set_option maxHeartbeats 2000000 in
theorem refRot_any (x k : Nat) (w : World) (hx : x < 4294967296) (hk : k < 32) :
    Calls Try.prog 160 #[.int .u32 (x : Int), .int .i64 (k : Int)] w fun e w' => e = .returned (.int .u32 ((rotN x k : Nat) : Int)) ∧ w = w' := by
  have e1 : Int.tmod (k : Int) 32 = (k : Int) := by rw [Int.tmod_eq_emod_of_nonneg (by omega)]; omega
  have d0 : decide ((k : Int) < 0) = false := decide_eq_false (by omega)
  go_enter Try.func160, Try.ntmps160
  go_wp2
  go_loopw [0, 6, 7] (fun v i _ wr => ∃ j : Nat, j ≤ k ∧ v = .int .u32 ((rotN x j : Nat) : Int) ∧ i = .int .i64 (j : Int) ∧ w = wr) (fun _ i _ _ => k - (intOf i).toNat)
  case atStart => exact ⟨0, Nat.zero_le _, by rw [rot_zero], rfl, rfl⟩
  case round =>
    obtain ⟨j, hj, rfl, rfl, rfl⟩ := hrel
    by_cases hlt : j < k
    · have hs := rot_step hx (show j < 32 by omega)
      have hy := rot_lt hx (show j ≤ 32 by omega)
      have hy2 := rot_lt hx (show j + 1 ≤ 32 by omega)
      obtain ⟨y, hj0⟩ : ∃ y, rotN x j = y := ⟨_, rfl⟩
      rw [hj0] at hs hy ⊢
      clear hj0
      obtain ⟨z, hj1⟩ : ∃ z, rotN x (j + 1) = z := ⟨_, rfl⟩
      rw [hj1] at hs hy2
      replace hj1 := Lib.hid hj1
      have m0 : Int.tmod (y : Int) 2 = ((y % 2 : Nat) : Int) := by rw [Int.tmod_eq_emod_of_nonneg (by omega)]; omega
      have m1 : Int.tdiv (y : Int) 2 = ((y / 2 : Nat) : Int) := by rw [Int.tdiv_eq_ediv_of_nonneg (by omega)]; omega
      have dl : decide ((j : Int) < (k : Int)) = true := decide_eq_true (by omega)
      have HS := Lib.hid hs
      clear hs
      rcases (show y % 2 = 0 ∨ y % 2 = 1 by omega) with hb | hb
      · have m2 : Int.tmod (y : Int) 2 = 0 := by rw [m0, hb]; rfl
        have hz : y / 2 = z := by have := HS.out; omega
        have HB := Lib.hid hz
        clear m0 hb hz
        go_wp2
        go_roundw
        case rel => exact ⟨j + 1, by omega, by rw [hj1.out, ← HB.out]; simp, by go_num, trivial⟩
        case measure => simp [intOf]; omega
      · have m2 : Int.tmod (y : Int) 2 = 1 := by rw [m0, hb]; rfl
        have hz : y / 2 + 2147483648 = z := by have := HS.out; omega
        have m3 : IntKind.u32.wrap ((y : Int) / 2 + 2147483648) = (z : Int) := by rw [IntKind.wrap_u32]; omega
        have HB := Lib.hid hz
        clear m0 hb hz
        go_wp2
        go_roundw
        case rel => exact ⟨j + 1, by omega, by rw [hj1.out], by go_num, trivial⟩
        case measure => simp [intOf]; omega
    · obtain rfl : j = k := by omega
      have dl : decide ((j : Int) < (j : Int)) = false := by simp
      go_wp2
      go_ret
      exact ⟨rfl, rfl⟩
/-- The loop of a reference over the 32 bits, from the least one on. -/
theorem mod_bit (x : Nat) {j : Nat} (hj : j < 32) : x % 2 ^ (j + 1) = x % 2 ^ j + x / 2 ^ j % 2 * 2 ^ j := mod_succ' x j
theorem pow_lt32 {j : Nat} (hj : j < 32) : 0 < 2 ^ j ∧ 2 ^ j ≤ 2147483648 := by
  have h1 : (2 : Nat) ^ j ≤ 2 ^ 31 := Nat.pow_le_pow_right (by decide) (by omega)
  have h2 : 0 < 2 ^ j := Nat.pow_pos (by decide)
  exact ⟨h2, by simpa using h1⟩
set_option maxHeartbeats 2000000 in
theorem refPick_any (e f g : Nat) (w : World) (he : e < 4294967296) (hf : f < 4294967296) (hg : g < 4294967296) :
    Calls Try.prog 154 #[.int .u32 (e : Int), .int .u32 (f : Int), .int .u32 (g : Int)] w fun en w' => en = .returned (.int .u32 ((chN e f g : Nat) : Int)) ∧ w = w' := by
  go_enter Try.func154, Try.ntmps154
  go_wp2
  go_loopw [7, 8, 9] (fun o b _ wr => ∃ j : Nat, j ≤ 32 ∧ o = .int .u32 ((chN e f g % 2 ^ j : Nat) : Int) ∧ b = .int .u32 ((2 ^ j % 4294967296 : Nat) : Int) ∧ w = wr) (fun _ b _ _ => if intOf b = 0 then 0 else 4294967296 - (intOf b).toNat)
  case atStart => exact ⟨0, Nat.zero_le _, by simp [Nat.mod_one], by simp, rfl⟩
  case round =>
    obtain ⟨j, hj, rfl, rfl, rfl⟩ := hrel
    by_cases hlt : j < 32
    · obtain ⟨p0, p1⟩ := pow_lt32 hlt
      have hc := ch_bit (e := e) (f := f) (g := g) hlt
      have hm := mod_bit (chN e f g) hlt
      rw [hc] at hm
      have hcl := ch_lt (e := e) hf hg
      have hpe : 2 ^ j % 4294967296 = 2 ^ j := Nat.mod_eq_of_lt (by omega)
      have hp2 : 2 ^ (j + 1) = 2 * 2 ^ j := by rw [Nat.pow_succ]; omega
      have hu : chN e f g % 2 ^ (j + 1) < 4294967296 := Nat.lt_of_le_of_lt (Nat.mod_le _ _) hcl
      have HU := Lib.hid hm
      have HP := Lib.hid hp2
      rw [hpe]
      clear hc hpe hp2 hm
      obtain ⟨v, hv⟩ : ∃ v, chN e f g % 2 ^ (j + 1) = v := ⟨_, rfl⟩
      obtain ⟨u, hu0⟩ : ∃ u, chN e f g % 2 ^ j = u := ⟨_, rfl⟩
      have HM := HU.out
      rw [hv, hu0] at HM
      rw [hv] at hu
      rw [hu0]
      replace hv := Lib.hid hv
      clear HU hu0 hcl
      have hpj : ∃ p, 2 ^ j = p := ⟨_, rfl⟩
      obtain ⟨p, hpj⟩ := hpj
      rw [hpj] at HM p0 p1 ⊢
      have HP' := HP.out
      rw [hpj] at HP'
      replace HP := Lib.hid HP'
      replace HM := Lib.hid HM
      clear hpj HP'
      have dp : decide ((0 : Int) < (p : Int)) = true := decide_eq_true (by omega)
      have hq : ∀ x : Nat, (x : Int) / (p : Int) % 2 = ((x / p % 2 : Nat) : Int) := fun x => by simp
      have hend : ∀ t : Nat, t = 0 ∨ t = 1 → v = u + t * p → (((u : Int) + (t : Int) * (p : Int) % 4294967296) % 4294967296 = (v : Int)) := by
        rintro t (rfl | rfl) ht
        · simp only [Nat.zero_mul, Nat.add_zero] at ht; subst ht; simp; omega
        · simp only [Nat.one_mul] at ht; subst ht; simp; omega
      have HE := Lib.hid hend
      have HQ := Lib.hid hq
      have hb1 := hq e
      rcases (show e / p % 2 = 0 ∨ e / p % 2 = 1 by omega) with hb | hb
      · rw [hb] at hb1
        have hb2 : ((e : Int) / (p : Int) % 2 == 1) = false := by rw [hb1]; rfl
        have HM2 : Hid (v = u + g / p % 2 * p) := Lib.hid (by have := HM.out; rwa [hb, if_neg (by decide)] at this)
        clear hb hb1 hq hend HM
        go_wp2
        go_roundw
        case rel => exact ⟨j + 1, by omega, by rw [HQ.out, HE.out _ (by omega) HM2.out, hv.out], by rw [HP.out]; simp, trivial⟩
        case measure =>
          show (if (2 * (p : Int) % 4294967296) = 0 then 0 else 4294967296 - (2 * (p : Int) % 4294967296).toNat) < (if (p : Int) = 0 then 0 else 4294967296 - (p : Int).toNat)
          rw [if_neg (show ¬ (p : Int) = 0 by omega)]
          split <;> omega
      · rw [hb] at hb1
        have hb2 : ((e : Int) / (p : Int) % 2 == 1) = true := by rw [hb1]; rfl
        have HM2 : Hid (v = u + f / p % 2 * p) := Lib.hid (by have := HM.out; rwa [hb, if_pos rfl] at this)
        clear hb hb1 hq hend HM
        go_wp2
        go_roundw
        case rel => exact ⟨j + 1, by omega, by rw [HQ.out, HE.out _ (by omega) HM2.out, hv.out], by rw [HP.out]; simp, trivial⟩
        case measure =>
          show (if (2 * (p : Int) % 4294967296) = 0 then 0 else 4294967296 - (2 * (p : Int) % 4294967296).toNat) < (if (p : Int) = 0 then 0 else 4294967296 - (p : Int).toNat)
          rw [if_neg (show ¬ (p : Int) = 0 by omega)]
          split <;> omega
    · obtain rfl : j = 32 := by omega
      have hcl := ch_lt (e := e) hf hg
      have e0 : (2 : Nat) ^ 32 % 4294967296 = 0 := by decide
      have e1 : chN e f g % 2 ^ 32 = chN e f g := Nat.mod_eq_of_lt (by omega)
      rw [e0, e1]
      go_wp2
      go_ret
      exact ⟨rfl, rfl⟩
set_option maxHeartbeats 2000000 in
theorem refMost_any (e f g : Nat) (w : World) (he : e < 4294967296) (hf : f < 4294967296) (hg : g < 4294967296) :
    Calls Try.prog 155 #[.int .u32 (e : Int), .int .u32 (f : Int), .int .u32 (g : Int)] w fun en w' => en = .returned (.int .u32 ((majN e f g : Nat) : Int)) ∧ Below w.heap.size w w' := by
  go_enter Try.func155, Try.ntmps155
  go_wp2
  go_loopw [7, 8] (fun o b wr => ∃ j : Nat, j ≤ 32 ∧ o = .int .u32 ((majN e f g % 2 ^ j : Nat) : Int) ∧ b = .int .u32 ((2 ^ j % 4294967296 : Nat) : Int) ∧ Below w.heap.size w wr) (fun _ b _ => if intOf b = 0 then 0 else 4294967296 - (intOf b).toNat)
  case atStart => exact ⟨0, Nat.zero_le _, by simp [Nat.mod_one], by simp, bR _⟩
  case round =>
    obtain ⟨j, hj, rfl, rfl, hbw⟩ := hrel
    by_cases hlt : j < 32
    · obtain ⟨p0, p1⟩ := pow_lt32 hlt
      have hc := maj_bit (a := e) (b := f) (c := g) (k := j)
      have hm := mod_bit (majN e f g) hlt
      rw [hc] at hm
      have hcl := maj_lt (c := g) he hf
      have hpe : 2 ^ j % 4294967296 = 2 ^ j := Nat.mod_eq_of_lt (by omega)
      have hp2 : 2 ^ (j + 1) = 2 * 2 ^ j := by rw [Nat.pow_succ]; omega
      have hu : majN e f g % 2 ^ (j + 1) < 4294967296 := Nat.lt_of_le_of_lt (Nat.mod_le _ _) hcl
      have HU := Lib.hid hm
      have HP := Lib.hid hp2
      rw [hpe]
      clear hc hpe hp2 hm
      obtain ⟨v, hv⟩ : ∃ v, majN e f g % 2 ^ (j + 1) = v := ⟨_, rfl⟩
      obtain ⟨u, hu0⟩ : ∃ u, majN e f g % 2 ^ j = u := ⟨_, rfl⟩
      have HM := HU.out
      rw [hv, hu0] at HM
      rw [hv] at hu
      rw [hu0]
      replace hv := Lib.hid hv
      clear HU hu0 hcl
      have hpj : ∃ p, 2 ^ j = p := ⟨_, rfl⟩
      obtain ⟨p, hpj⟩ := hpj
      rw [hpj] at HM p0 p1 ⊢
      have HP' := HP.out
      rw [hpj] at HP'
      replace HP := Lib.hid HP'
      replace HM := Lib.hid HM
      clear hpj HP'
      have dp : decide ((0 : Int) < (p : Int)) = true := decide_eq_true (by omega)
      have hq : ∀ x : Nat, (x : Int) / (p : Int) % 2 = ((x / p % 2 : Nat) : Int) := fun x => by simp
      have hend : ∀ t : Nat, t = 0 ∨ t = 1 → v = u + t * p → (((u : Int) + (t : Int) * (p : Int) % 4294967296) % 4294967296 = (v : Int)) := by
        rintro t (rfl | rfl) ht
        · simp only [Nat.zero_mul, Nat.add_zero] at ht; subst ht; simp; omega
        · simp only [Nat.one_mul] at ht; subst ht; simp; omega
      have HE := Lib.hid hend
      have HQ := Lib.hid hq
      have hb1 := hq e
      have hb2 := hq f
      have hb3 := hq g
      have g1 : ((2 : Int) ≤ (e : Int) / (p : Int) % 2 + (f : Int) / (p : Int) % 2 + (g : Int) / (p : Int) % 2) ↔ 2 ≤ e / p % 2 + f / p % 2 + g / p % 2 := by rw [hb1, hb2, hb3]; omega
      by_cases hsum : 2 ≤ e / p % 2 + f / p % 2 + g / p % 2
      · have dsum : ¬ ((e : Int) / (p : Int) % 2 + (f : Int) / (p : Int) % 2 + (g : Int) / (p : Int) % 2 < 2) := by rw [hb1, hb2, hb3]; omega
        have HM2 : Hid (v = u + 1 * p) := Lib.hid (by have := HM.out; rwa [if_pos hsum] at this)
        have hz : ((u : Int) + 1 * (p : Int) % 4294967296) % 4294967296 = (v : Int) := by have := hend 1 (by omega) HM2.out; simpa using this
        have HZ := Lib.hid hz
        clear hb1 hb2 hb3 g1 hsum hz hq hend HM
        go_wp2
        go_quiet (fail)
        go_wp2
        go_roundw
        case rel => exact ⟨j + 1, by omega, by rw [hv.out, ← HZ.out]; simp, by rw [HP.out]; simp, bN hbw _⟩
        case measure =>
          show (if (2 * (p : Int) % 4294967296) = 0 then 0 else 4294967296 - (2 * (p : Int) % 4294967296).toNat) < (if (p : Int) = 0 then 0 else 4294967296 - (p : Int).toNat)
          rw [if_neg (show ¬ (p : Int) = 0 by omega)]
          split <;> omega
      · have dsum : ((e : Int) / (p : Int) % 2 + (f : Int) / (p : Int) % 2 + (g : Int) / (p : Int) % 2 < 2) := by rw [hb1, hb2, hb3]; omega
        have HM2 : Hid (v = u + 0 * p) := Lib.hid (by have := HM.out; rwa [if_neg hsum] at this)
        have hz : ((u : Int) + 0 * (p : Int) % 4294967296) % 4294967296 = (v : Int) := by have := hend 0 (by omega) HM2.out; simpa using this
        have HZ := Lib.hid hz
        clear hb1 hb2 hb3 g1 hsum hz hq hend HM
        go_wp2
        go_quiet (fail)
        go_wp2
        go_roundw
        case rel => exact ⟨j + 1, by omega, by rw [hv.out, show u = v by have := HM2.out; omega], by rw [HP.out]; simp, bN hbw _⟩
        case measure =>
          show (if (2 * (p : Int) % 4294967296) = 0 then 0 else 4294967296 - (2 * (p : Int) % 4294967296).toNat) < (if (p : Int) = 0 then 0 else 4294967296 - (p : Int).toNat)
          rw [if_neg (show ¬ (p : Int) = 0 by omega)]
          split <;> omega
    · obtain rfl : j = 32 := by omega
      have hcl := maj_lt (c := g) he hf
      have e0 : (2 : Nat) ^ 32 % 4294967296 = 0 := by decide
      have e1 : majN e f g % 2 ^ 32 = majN e f g := Nat.mod_eq_of_lt (by omega)
      rw [e0, e1]
      go_wp2
      go_ret
      exact ⟨rfl, hbw⟩
end Go.Proofs.Ytachkhjbckapoaa

namespace Go.Proofs.Ytachkhjbckapoaa
open Go.RowKit
set_option linter.unusedVariables false
set_option maxRecDepth 100000
set_option linter.unusedSimpArgs false

set_option maxHeartbeats 2000000 in
theorem refThree_any (x i j k : Nat) (w : World) (hx : x < 4294967296) (hi : i < 32) (hj : j < 32) (hk : k < 32) :
    Calls Try.prog 153 #[.int .u32 (x : Int), .int .i64 (i : Int), .int .i64 (j : Int), .int .i64 (k : Int)] w fun e w' => e = .returned (.int .u32 (((rotN x i ^^^ rotN x j) ^^^ rotN x k : Nat) : Int)) ∧ w = w' := by
  have r1 := rot_lt hx (show i ≤ 32 by omega)
  have r2 := rot_lt hx (show j ≤ 32 by omega)
  have r3 := rot_lt hx (show k ≤ 32 by omega)
  have x1 := xor32 r1 r2
  have x2 := xor32 (xor_lt r1 r2) r3
  have HX1 := Lib.hid x1
  have HX2 := Lib.hid x2
  have c1 := refRot_any x i w hx hi
  have c2 := refRot_any x j w hx hj
  have c3 := refRot_any x k w hx hk
  generalize rotN x i = p at *
  generalize rotN x j = q at *
  generalize rotN x k = r at *
  clear x1 x2
  go_enter Try.func153, Try.ntmps153
  go_wp2_with (first | (go_at_call 160; (with_reducible refine c1.mono ?_); rintro e w1 ⟨rfl, rfl⟩) | (go_at_call 160; (with_reducible refine c2.mono ?_); rintro e w1 ⟨rfl, rfl⟩) | (go_at_call 160; (with_reducible refine c3.mono ?_); rintro e w1 ⟨rfl, rfl⟩))
  go_ret
  exact ⟨by rw [HX1.out, HX2.out] <;> rfl, rfl⟩
set_option maxHeartbeats 2000000 in
theorem refTwo_any (x i j b : Nat) (w : World) (hx : x < 4294967296) (hi : i < 32) (hj : j < 32) (hb : 0 < b) (hb9 : b < 4294967296) :
    Calls Try.prog 151 #[.int .u32 (x : Int), .int .i64 (i : Int), .int .i64 (j : Int), .int .u32 (b : Int)] w fun e w' => e = .returned (.int .u32 (((rotN x i ^^^ rotN x j) ^^^ x / b : Nat) : Int)) ∧ Below w.heap.size w w' := by
  have r1 := rot_lt hx (show i ≤ 32 by omega)
  have r2 := rot_lt hx (show j ≤ 32 by omega)
  have r3 : x / b < 4294967296 := Nat.lt_of_le_of_lt (Nat.div_le_self _ _) hx
  have x1 := xor32 r1 r2
  have x2 := xor32 (xor_lt r1 r2) r3
  have e3 : ((x / b : Nat) : Int) = (x : Int) / (b : Int) := by simp
  rw [e3] at x2
  have bz : ¬ b = 0 := by omega
  have HX3 : Hid (IntKind.u32.wrap ((x : Int) / (b : Int)) = (x : Int) / (b : Int)) := Lib.hid (by rw [← e3]; exact wraps_u32 _ (Int.natCast_nonneg _) (by exact_mod_cast r3))
  have HX1 := Lib.hid x1
  have HX2 := Lib.hid x2
  have c1 := fun W => refRot_any x i W hx hi
  have c2 := fun W => refRot_any x j W hx hj
  generalize rotN x i = p at *
  generalize rotN x j = q at *
  clear x1 x2 e3
  go_enter Try.func151, Try.ntmps151
  go_wp2
  go_region_held3 (fun w9 => Below w.heap.size w w9) (first | exact bR _ | exact bD (bR _) | exact bN (bR _) _ | assumption | exact bD (by assumption) | exact bN (by assumption) _) (first | ((go_at_call 160; (with_reducible refine (c1 _).mono ?_); rintro e w1 ⟨rfl, rfl⟩)) | ((go_at_call 160; (with_reducible refine (c2 _).mono ?_); rintro e w1 ⟨rfl, rfl⟩)))
  rename_i hHeld
  go_wp2
  go_ret
  exact ⟨by first | (rw [HX3.out, HX1.out, HX2.out] <;> rfl) | (rw [HX3.out, HX2.out] <;> rfl) | (rw [HX1.out, HX2.out] <;> rfl), hHeld⟩
end Go.Proofs.Ytachkhjbckapoaa

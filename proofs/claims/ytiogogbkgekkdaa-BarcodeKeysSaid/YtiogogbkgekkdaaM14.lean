/- Layers 1 and 2, the plain facts: words of 32 bits as natural numbers; what SHA-256's steps compute, and that the document's bit by bit way comes to the same. Layers 1 and 2: a word turned, by the program and by the document. Layer 2: SHA-256's constants, by the program. No condition. -/
import Derived.Test.YtiogogbkgekkdaaM00
import Derived.Laws.BitsLemmas
import Derived.Laws.Bits64
import Derived.Test.YtiogogbkgekkdaaM10
namespace Go.Proofs.Ytiogogbkgekkdaa
open Go.RowKit
set_option linter.unusedVariables false
set_option maxRecDepth 100000
set_option linter.unusedSimpArgs false

/-- A word turned by k places to the right (k from 0 to 31). -/
def rotN (x k : Nat) : Nat := x / 2 ^ k + x % 2 ^ k * 2 ^ (32 - k)
def chN (e f g : Nat) : Nat := (e &&& f) ^^^ ((4294967295 ^^^ e) &&& g)
def majN (a b c : Nat) : Nat := ((a &&& b) ^^^ (a &&& c)) ^^^ (b &&& c)
def sg0 (x : Nat) : Nat := (rotN x 7 ^^^ rotN x 18) ^^^ x / 8
def sg1 (x : Nat) : Nat := (rotN x 17 ^^^ rotN x 19) ^^^ x / 1024
def bs0 (x : Nat) : Nat := (rotN x 2 ^^^ rotN x 13) ^^^ rotN x 22
def bs1 (x : Nat) : Nat := (rotN x 6 ^^^ rotN x 11) ^^^ rotN x 25

theorem pow_split {k : Nat} (hk : k ≤ 32) : (2 : Nat) ^ k * 2 ^ (32 - k) = 4294967296 := by
  rw [← Nat.pow_add, show k + (32 - k) = 32 by omega]
theorem rot_lt {x k : Nat} (hx : x < 4294967296) (hk : k ≤ 32) : rotN x k < 4294967296 := by
  unfold rotN
  have h := pow_split hk
  have hp : 0 < (2 : Nat) ^ k := Nat.two_pow_pos k
  have h1 : x / 2 ^ k < 2 ^ (32 - k) := by rw [Nat.div_lt_iff_lt_mul hp, Nat.mul_comm, h]; exact hx
  have h2 : x % 2 ^ k ≤ 2 ^ k - 1 := by have := Nat.mod_lt x hp; omega
  have h3 : x % 2 ^ k * 2 ^ (32 - k) ≤ (2 ^ k - 1) * 2 ^ (32 - k) := Nat.mul_le_mul_right _ h2
  rw [Nat.sub_mul, h, Nat.one_mul] at h3
  have h4 : 2 ^ (32 - k) ≤ 4294967296 := by rw [← h]; exact Nat.le_mul_of_pos_left _ hp
  omega
/-- The program's way: two shifts and an or. -/
theorem rot_or {x k : Nat} (hx : x < 4294967296) (hk : k ≤ 32) : x / 2 ^ k ||| x * 2 ^ (32 - k) % 4294967296 = rotN x k := by
  have h := pow_split hk
  have hp : 0 < (2 : Nat) ^ k := Nat.two_pow_pos k
  have h1 : x / 2 ^ k < 2 ^ (32 - k) := by rw [Nat.div_lt_iff_lt_mul hp, Nat.mul_comm, h]; exact hx
  have e : x * 2 ^ (32 - k) % 4294967296 = x % 2 ^ k * 2 ^ (32 - k) := by rw [← h, Nat.mul_mod_mul_right]
  rw [e, Nat.or_comm, Nat.mul_comm, ← Nat.two_pow_add_eq_or_of_lt h1]
  unfold rotN
  rw [Nat.mul_comm, Nat.add_comm]
/-- The document's way: one place at a time. -/
theorem rot_step {x k : Nat} (hx : x < 4294967296) (hk : k < 32) : rotN x k / 2 + rotN x k % 2 * 2147483648 = rotN x (k + 1) := by
  unfold rotN
  obtain ⟨j, hj⟩ : ∃ j, 32 - k = j + 1 := ⟨31 - k, by omega⟩
  have hj2 : 32 - (k + 1) = j := by omega
  rw [hj, hj2, Nat.pow_succ, Nat.pow_succ]
  have hp : 0 < (2 : Nat) ^ k := Nat.two_pow_pos k
  have h := pow_split (show k ≤ 32 by omega)
  rw [hj, Nat.pow_succ] at h
  have e1 : x / 2 ^ k + x % 2 ^ k * (2 ^ j * 2) = x / 2 ^ k + 2 * (x % 2 ^ k * 2 ^ j) := by
    rw [← Nat.mul_assoc, Nat.mul_comm 2]
  have e2 : x / (2 ^ k * 2) = x / 2 ^ k / 2 := by rw [Nat.div_div_eq_div_mul]
  have e3 : x % (2 ^ k * 2) = x % 2 ^ k + 2 ^ k * (x / 2 ^ k % 2) := by rw [Nat.mod_mul]
  have e4 : (2 ^ k * (x / 2 ^ k % 2)) * 2 ^ j = x / 2 ^ k % 2 * 2147483648 := by
    have : 2 ^ k * 2 ^ j = 2147483648 := by
      have h' : 2 ^ k * 2 ^ j * 2 = 4294967296 := by rw [Nat.mul_assoc]; exact h
      omega
    rw [Nat.mul_right_comm, this, Nat.mul_comm]
  rw [e1, e2, e3, Nat.add_mul, e4]
  have m1 : (x / 2 ^ k + 2 * (x % 2 ^ k * 2 ^ j)) / 2 = x / 2 ^ k / 2 + x % 2 ^ k * 2 ^ j := by omega
  have m2 : (x / 2 ^ k + 2 * (x % 2 ^ k * 2 ^ j)) % 2 = x / 2 ^ k % 2 := by omega
  rw [m1, m2, Nat.add_assoc]
theorem rot_zero (x : Nat) : rotN x 0 = x := by simp [rotN, Nat.mod_one]

theorem lt_two32 {x : Nat} : x < 4294967296 ↔ x < 2 ^ 32 := by simp
theorem xor_lt {x y : Nat} (hx : x < 4294967296) (hy : y < 4294967296) : x ^^^ y < 4294967296 := lt_two32.2 (Nat.xor_lt_two_pow (lt_two32.1 hx) (lt_two32.1 hy))
theorem and_lt {x y : Nat} (hx : x < 4294967296) : x &&& y < 4294967296 := Nat.lt_of_le_of_lt Nat.and_le_left hx
theorem and_lt' {x y : Nat} (hy : y < 4294967296) : x &&& y < 4294967296 := Nat.lt_of_le_of_lt Nat.and_le_right hy
theorem ch_lt {e f g : Nat} (hf : f < 4294967296) (hg : g < 4294967296) : chN e f g < 4294967296 := xor_lt (and_lt' hf) (and_lt' hg)
theorem maj_lt {a b c : Nat} (ha : a < 4294967296) (hb : b < 4294967296) : majN a b c < 4294967296 := xor_lt (xor_lt (and_lt ha) (and_lt ha)) (and_lt hb)
theorem sg0_lt {x : Nat} (hx : x < 4294967296) : sg0 x < 4294967296 := xor_lt (xor_lt (rot_lt hx (by decide)) (rot_lt hx (by decide))) (Nat.lt_of_le_of_lt (Nat.div_le_self _ _) hx)
theorem sg1_lt {x : Nat} (hx : x < 4294967296) : sg1 x < 4294967296 := xor_lt (xor_lt (rot_lt hx (by decide)) (rot_lt hx (by decide))) (Nat.lt_of_le_of_lt (Nat.div_le_self _ _) hx)
theorem bs0_lt {x : Nat} (hx : x < 4294967296) : bs0 x < 4294967296 := xor_lt (xor_lt (rot_lt hx (by decide)) (rot_lt hx (by decide))) (rot_lt hx (by decide))
theorem bs1_lt {x : Nat} (hx : x < 4294967296) : bs1 x < 4294967296 := xor_lt (xor_lt (rot_lt hx (by decide)) (rot_lt hx (by decide))) (rot_lt hx (by decide))

theorem bit_val (x k : Nat) : x / 2 ^ k % 2 = (x.testBit k).toNat := by rw [Nat.testBit_eq_decide_div_mod_eq]; rcases Nat.mod_two_eq_zero_or_one (x / 2 ^ k) with h | h <;> simp [h]
theorem mod_succ' (x k : Nat) : x % 2 ^ (k + 1) = x % 2 ^ k + x / 2 ^ k % 2 * 2 ^ k := by rw [Nat.pow_succ, Nat.mod_mul, Nat.mul_comm (2 ^ k)]
theorem ch_bit {e f g k : Nat} (hk : k < 32) : chN e f g / 2 ^ k % 2 = if e / 2 ^ k % 2 = 1 then f / 2 ^ k % 2 else g / 2 ^ k % 2 := by
  simp only [bit_val]
  unfold chN
  have hM : (4294967295 : Nat).testBit k = true := by
    have : (4294967295 : Nat) = 2 ^ 32 - 1 := by decide
    rw [this, Nat.testBit_two_pow_sub_one]; simpa using hk
  rw [Nat.testBit_xor, Nat.testBit_and, Nat.testBit_and, Nat.testBit_xor, hM]
  cases e.testBit k <;> cases f.testBit k <;> cases g.testBit k <;> simp
theorem maj_bit {a b c k : Nat} : majN a b c / 2 ^ k % 2 = if 2 ≤ a / 2 ^ k % 2 + b / 2 ^ k % 2 + c / 2 ^ k % 2 then 1 else 0 := by
  simp only [bit_val]
  unfold majN
  rw [Nat.testBit_xor, Nat.testBit_xor, Nat.testBit_and, Nat.testBit_and, Nat.testBit_and]
  cases a.testBit k <;> cases b.testBit k <;> cases c.testBit k <;> simp

def kN : List Nat := [0x428a2f98, 0x71374491, 0xb5c0fbcf, 0xe9b5dba5, 0x3956c25b, 0x59f111f1, 0x923f82a4, 0xab1c5ed5, 0xd807aa98, 0x12835b01, 0x243185be, 0x550c7dc3, 0x72be5d74, 0x80deb1fe, 0x9bdc06a7, 0xc19bf174, 0xe49b69c1, 0xefbe4786, 0x0fc19dc6, 0x240ca1cc, 0x2de92c6f, 0x4a7484aa, 0x5cb0a9dc, 0x76f988da, 0x983e5152, 0xa831c66d, 0xb00327c8, 0xbf597fc7, 0xc6e00bf3, 0xd5a79147, 0x06ca6351, 0x14292967, 0x27b70a85, 0x2e1b2138, 0x4d2c6dfc, 0x53380d13, 0x650a7354, 0x766a0abb, 0x81c2c92e, 0x92722c85, 0xa2bfe8a1, 0xa81a664b, 0xc24b8b70, 0xc76c51a3, 0xd192e819, 0xd6990624, 0xf40e3585, 0x106aa070, 0x19a4c116, 0x1e376c08, 0x2748774c, 0x34b0bcb5, 0x391c0cb3, 0x4ed8aa4a, 0x5b9cca4f, 0x682e6ff3, 0x748f82ee, 0x78a5636f, 0x84c87814, 0x8cc70208, 0x90befffa, 0xa4506ceb, 0xbef9a3f7, 0xc67178f2]
def h0N : List Nat := [0x6a09e667, 0xbb67ae85, 0x3c6ef372, 0xa54ff53a, 0x510e527f, 0x9b05688c, 0x1f83d9ab, 0x5be0cd19]
/-- All are words of 32 bits. -/
def W32 (l : List Nat) : Prop := ∀ x ∈ l, x < 4294967296
theorem W32.at_ {l : List Nat} (h : W32 l) (i : Nat) : l.getD i 0 < 4294967296 := by
  rw [List.getD_eq_getElem?_getD]
  cases e : l[i]? with
  | none => simp
  | some x => simpa using h x (List.mem_of_getElem? e)
theorem k_W32 : W32 kN := by unfold W32 kN; decide
theorem h0_W32 : W32 h0N := by unfold W32 h0N; decide
/-- The word behind l (of 16 words or more) in the schedule. -/
def nextW (l : List Nat) : Nat := (((l.getD (l.length - 16) 0 + sg0 (l.getD (l.length - 15) 0)) % 4294967296 + l.getD (l.length - 7) 0) % 4294967296 + sg1 (l.getD (l.length - 2) 0)) % 4294967296
def schedN : Nat → List Nat → List Nat
  | 0, l => l
  | n + 1, l => schedN n (l ++ [nextW l])
theorem next_lt (l : List Nat) : nextW l < 4294967296 := Nat.mod_lt _ (by decide)
theorem sched_len : ∀ (n : Nat) (l : List Nat), (schedN n l).length = l.length + n
  | 0, l => rfl
  | n + 1, l => by rw [schedN, sched_len n]; simp; omega
theorem sched_W32 : ∀ (n : Nat) (l : List Nat), W32 l → W32 (schedN n l)
  | 0, l, h => h
  | n + 1, l, h => sched_W32 n _ (fun x hx => by
    rcases List.mem_append.1 hx with hx | hx
    · exact h x hx
    · simp at hx; rw [hx]; exact next_lt l)
theorem sched_snoc : ∀ (n : Nat) (l : List Nat), schedN (n + 1) l = schedN n l ++ [nextW (schedN n l)]
  | 0, l => rfl
  | n + 1, l => by rw [schedN, sched_snoc n]; rfl
def t1N (v : List Nat) (k w : Nat) : Nat := ((((v.getD 7 0 + bs1 (v.getD 4 0)) % 4294967296 + chN (v.getD 4 0) (v.getD 5 0) (v.getD 6 0)) % 4294967296 + k) % 4294967296 + w) % 4294967296
def t2N (v : List Nat) : Nat := (bs0 (v.getD 0 0) + majN (v.getD 0 0) (v.getD 1 0) (v.getD 2 0)) % 4294967296
def rndN (v : List Nat) (k w : Nat) : List Nat := [(t1N v k w + t2N v) % 4294967296, v.getD 0 0, v.getD 1 0, v.getD 2 0, (v.getD 3 0 + t1N v k w) % 4294967296, v.getD 4 0, v.getD 5 0, v.getD 6 0]
def rndsN : List Nat → List Nat → List Nat → List Nat
  | k :: ks, w :: ws, v => rndsN ks ws (rndN v k w)
  | _, _, v => v
def addN (v h : List Nat) : List Nat := List.zipWith (fun x y => (x + y) % 4294967296) v h
def blockN (h w : List Nat) : List Nat := addN (rndsN kN (schedN 48 w) h) h
theorem rnd_len (v : List Nat) (k w : Nat) : (rndN v k w).length = 8 := rfl
theorem rnd_W32 {v : List Nat} (h : W32 v) (k w : Nat) : W32 (rndN v k w) := by
  intro x hx
  simp only [rndN, List.mem_cons, List.not_mem_nil, or_false] at hx
  rcases hx with rfl | rfl | rfl | rfl | rfl | rfl | rfl | rfl
  all_goals first | exact Nat.mod_lt _ (by decide) | exact h.at_ _
theorem block_len {h w : List Nat} (hh : h.length = 8) : (blockN h w).length = 8 := by
  have : ∀ (ks ws v : List Nat), v.length = 8 → (rndsN ks ws v).length = 8 := by
    intro ks
    induction ks with
    | nil => intro ws v hv; exact hv
    | cons k ks ih => intro ws v hv; cases ws with
      | nil => exact hv
      | cons w ws => exact ih ws _ rfl
  unfold blockN addN
  rw [List.length_zipWith, this _ _ _ hh, hh]; rfl
theorem block_W32 {h w : List Nat} : W32 (blockN h w) := by
  intro x hx
  unfold blockN addN at hx
  obtain ⟨i, hi, rfl⟩ := List.mem_iff_getElem.1 hx
  rw [List.getElem_zipWith]
  exact Nat.mod_lt _ (by decide)
end Go.Proofs.Ytiogogbkgekkdaa

namespace Go.Proofs.Ytiogogbkgekkdaa
open Go.RowKit
set_option linter.unusedVariables false
set_option maxRecDepth 100000
set_option linter.unusedSimpArgs false

theorem wraps_u32 (n : Int) (h0 : 0 ≤ n) (h1 : n < 2 ^ 32) : IntKind.u32.wrap n = n := by rw [IntKind.wrap_u32]; omega
theorem or32 {a b : Nat} (ha : a < 4294967296) (hb : b < 4294967296) : bits .or .u32 (a : Int) (b : Int) = ((a ||| b : Nat) : Int) := (bits_nat .u32 32 (by decide) wraps_u32 a b (by omega) (by omega)).2
theorem and32 {a b : Nat} (ha : a < 4294967296) (hb : b < 4294967296) : bits .and .u32 (a : Int) (b : Int) = ((a &&& b : Nat) : Int) := (bits_nat .u32 32 (by decide) wraps_u32 a b (by omega) (by omega)).1
theorem xor32 {a b : Nat} (ha : a < 4294967296) (hb : b < 4294967296) : bits .xor .u32 (a : Int) (b : Int) = ((a ^^^ b : Nat) : Int) := by
  have hx : a ^^^ b < 2 ^ 32 := Nat.xor_lt_two_pow (by omega) (by omega)
  have h1 : (BitVec.ofInt 32 (a : Int)).toNat = a := by rw [BitVec.ofInt_natCast, BitVec.toNat_ofNat]; exact Nat.mod_eq_of_lt (by omega)
  have h2 : (BitVec.ofInt 32 (b : Int)).toNat = b := by rw [BitVec.ofInt_natCast, BitVec.toNat_ofNat]; exact Nat.mod_eq_of_lt (by omega)
  show IntKind.u32.wrap ((BitVec.ofInt 32 (a : Int) ^^^ BitVec.ofInt 32 (b : Int)).toNat : Int) = _
  rw [BitVec.toNat_xor, h1, h2, IntKind.wrap_u32]
  omega
theorem add32 (a b : Nat) : IntKind.u32.wrap ((a : Int) + (b : Int)) = (((a + b) % 4294967296 : Nat) : Int) := by rw [IntKind.wrap_u32]; omega
theorem rot_val {x k : Nat} (hx : x < 4294967296) (hk : k ≤ 32) : bits .or .u32 ((x : Int) / 2 ^ k) (IntKind.u32.wrap ((x : Int) * 2 ^ (32 - k))) = ((rotN x k : Nat) : Int) := by
  have e1 : ((x : Int) / 2 ^ k) = ((x / 2 ^ k : Nat) : Int) := by simp
  have e2 : IntKind.u32.wrap ((x : Int) * 2 ^ (32 - k)) = ((x * 2 ^ (32 - k) % 4294967296 : Nat) : Int) := by rw [IntKind.wrap_u32]; simp
  rw [e1, e2, or32 (Nat.lt_of_le_of_lt (Nat.div_le_self _ _) hx) (Nat.mod_lt _ (by decide)), rot_or hx hk]

theorem rot2 (x : Nat) (w : World) (hx : x < 4294967296) :
    Calls Try.prog 167 #[.int .u32 (x : Int), .int .i64 2] w fun e w' => e = .returned (.int .u32 ((rotN x 2 : Nat) : Int)) ∧ w = w' := by
  have hb : bits .and .u64 2 31 = 2 := by decide
  go_enter Try.func167, Try.ntmps167
  go_wp2
  go_ret
  exact ⟨by rw [← rot_val hx (by decide)]; rfl, rfl⟩

theorem rot6 (x : Nat) (w : World) (hx : x < 4294967296) :
    Calls Try.prog 167 #[.int .u32 (x : Int), .int .i64 6] w fun e w' => e = .returned (.int .u32 ((rotN x 6 : Nat) : Int)) ∧ w = w' := by
  have hb : bits .and .u64 6 31 = 6 := by decide
  go_enter Try.func167, Try.ntmps167
  go_wp2
  go_ret
  exact ⟨by rw [← rot_val hx (by decide)]; rfl, rfl⟩

theorem rot7 (x : Nat) (w : World) (hx : x < 4294967296) :
    Calls Try.prog 167 #[.int .u32 (x : Int), .int .i64 7] w fun e w' => e = .returned (.int .u32 ((rotN x 7 : Nat) : Int)) ∧ w = w' := by
  have hb : bits .and .u64 7 31 = 7 := by decide
  go_enter Try.func167, Try.ntmps167
  go_wp2
  go_ret
  exact ⟨by rw [← rot_val hx (by decide)]; rfl, rfl⟩

theorem rot11 (x : Nat) (w : World) (hx : x < 4294967296) :
    Calls Try.prog 167 #[.int .u32 (x : Int), .int .i64 11] w fun e w' => e = .returned (.int .u32 ((rotN x 11 : Nat) : Int)) ∧ w = w' := by
  have hb : bits .and .u64 11 31 = 11 := by decide
  go_enter Try.func167, Try.ntmps167
  go_wp2
  go_ret
  exact ⟨by rw [← rot_val hx (by decide)]; rfl, rfl⟩

theorem rot13 (x : Nat) (w : World) (hx : x < 4294967296) :
    Calls Try.prog 167 #[.int .u32 (x : Int), .int .i64 13] w fun e w' => e = .returned (.int .u32 ((rotN x 13 : Nat) : Int)) ∧ w = w' := by
  have hb : bits .and .u64 13 31 = 13 := by decide
  go_enter Try.func167, Try.ntmps167
  go_wp2
  go_ret
  exact ⟨by rw [← rot_val hx (by decide)]; rfl, rfl⟩

theorem rot17 (x : Nat) (w : World) (hx : x < 4294967296) :
    Calls Try.prog 167 #[.int .u32 (x : Int), .int .i64 17] w fun e w' => e = .returned (.int .u32 ((rotN x 17 : Nat) : Int)) ∧ w = w' := by
  have hb : bits .and .u64 17 31 = 17 := by decide
  go_enter Try.func167, Try.ntmps167
  go_wp2
  go_ret
  exact ⟨by rw [← rot_val hx (by decide)]; rfl, rfl⟩

theorem rot18 (x : Nat) (w : World) (hx : x < 4294967296) :
    Calls Try.prog 167 #[.int .u32 (x : Int), .int .i64 18] w fun e w' => e = .returned (.int .u32 ((rotN x 18 : Nat) : Int)) ∧ w = w' := by
  have hb : bits .and .u64 18 31 = 18 := by decide
  go_enter Try.func167, Try.ntmps167
  go_wp2
  go_ret
  exact ⟨by rw [← rot_val hx (by decide)]; rfl, rfl⟩

theorem rot19 (x : Nat) (w : World) (hx : x < 4294967296) :
    Calls Try.prog 167 #[.int .u32 (x : Int), .int .i64 19] w fun e w' => e = .returned (.int .u32 ((rotN x 19 : Nat) : Int)) ∧ w = w' := by
  have hb : bits .and .u64 19 31 = 19 := by decide
  go_enter Try.func167, Try.ntmps167
  go_wp2
  go_ret
  exact ⟨by rw [← rot_val hx (by decide)]; rfl, rfl⟩

theorem rot22 (x : Nat) (w : World) (hx : x < 4294967296) :
    Calls Try.prog 167 #[.int .u32 (x : Int), .int .i64 22] w fun e w' => e = .returned (.int .u32 ((rotN x 22 : Nat) : Int)) ∧ w = w' := by
  have hb : bits .and .u64 22 31 = 22 := by decide
  go_enter Try.func167, Try.ntmps167
  go_wp2
  go_ret
  exact ⟨by rw [← rot_val hx (by decide)]; rfl, rfl⟩

theorem rot25 (x : Nat) (w : World) (hx : x < 4294967296) :
    Calls Try.prog 167 #[.int .u32 (x : Int), .int .i64 25] w fun e w' => e = .returned (.int .u32 ((rotN x 25 : Nat) : Int)) ∧ w = w' := by
  have hb : bits .and .u64 25 31 = 25 := by decide
  go_enter Try.func167, Try.ntmps167
  go_wp2
  go_ret
  exact ⟨by rw [← rot_val hx (by decide)]; rfl, rfl⟩

end Go.Proofs.Ytiogogbkgekkdaa

namespace Go.Proofs.Ytiogogbkgekkdaa
open Go.RowKit
set_option linter.unusedVariables false
set_option maxRecDepth 100000
set_option linter.unusedSimpArgs false

theorem info64 : (Try.prog.info? 179).map (·.size) = some (wv kN).toArray.size := by kernel_rfl
set_option maxHeartbeats 2000000 in
theorem const_any (t : Nat) (w : World) (ht : t < 64) :
    Calls Try.prog 168 #[.int .i64 (t : Int)] w fun e w' => e = .returned (.int .u32 ((kN.getD t 0 : Nat) : Int)) ∧ Below w.heap.size w w' := by
  go_enter Try.func168, Try.ntmps168
  go_wp2_with (first | (refine wpL_build rfl 179 _ rfl (wv kN).toArray (by as_aux_lemma => kernel_rfl) ?_) | (refine wpList_store_row rfl 179 _ _ rfl w.heap.size (wv kN).toArray rfl rfl 179 _ (heap_alloc_new w _) info64 (by as_aux_lemma => kernel_rfl) (all_one (wv_one _)) ?_; generalize hW1 : World.setRow _ _ _ = w1; have hg1 : w1.heap[w.heap.size]? = some (.cells (wv kN).toArray 179 (0, 0)) := (by rw [← hW1]; exact setRow_heap _ _ _ _ _ _ (heap_alloc_new w _)); have HB := Lib.hid (show Below w.heap.size w w1 from by rw [← hW1]; exact setRow_below (bel1 w _) (Nat.le_refl _)); have hc := row_wv (j := t) hg1 ht; clear hW1 hg1))
  go_ret
  exact ⟨rfl, HB.out⟩
end Go.Proofs.Ytiogogbkgekkdaa

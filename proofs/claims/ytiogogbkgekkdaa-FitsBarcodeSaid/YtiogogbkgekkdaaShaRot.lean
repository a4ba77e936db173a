/- Layers 1 and 2: a word turned, by the program and by the document. No condition. -/
import Derived.Test.YtiogogbkgekkdaaShaPure
import Derived.Test.YtiogogbkgekkdaaMem
import Derived.Laws.BitsLemmas
import Derived.Laws.Bits64
namespace Go.Proofs.Ytiogogbkgekkdaa
open Go.RowKit
set_option linter.unusedVariables false
set_option maxRecDepth 100000
set_option linter.unusedSimpArgs false

theorem wraps_u32 (n : Int) (h0 : 0 ≤ n) (h1 : n < 2 ^ 32) : IntKind.u32.wrap n = n := by rw [IntKind.wrap_u32]; omega
theorem or32 {a b : Nat} (ha : a < 4294967296) (hb : b < 4294967296) : bits .or .u32 (a : Int) (b : Int) = ((a ||| b : Nat) : Int) := (bits_nat .u32 32 (by decide) wraps_u32 a b (by omega) (by omega)).2
theorem and32 {a b : Nat} (ha : a < 4294967296) (hb : b < 4294967296) : bits .and .u32 (a : Int) (b : Int) = ((a &&& b : Nat) : Int) := (bits_nat .u32 32 (by decide) wraps_u32 a b (by omega) (by omega)).1
theorem xor32 {a b : Nat} (ha : a < 4294967296) (hb : b < 4294967296) : bits .xor .u32 (a : Int) (b : Int) = ((a ^^^ b : Nat) : Int) := by
  have hx : a ^^^ b < 2 ^ 32 := Nat.xor_lt_two_pow (by omega) (by omega)
  have h1 : (BitVec.ofInt 32 (a : Int)).toNat = a := by rw [BitVec.ofInt_natCast, BitVec.toNat_ofNat]; exact Nat.mod_eq_of_lt (by omega)
  have h2 : (BitVec.ofInt 32 (b : Int)).toNat = b := by rw [BitVec.ofInt_natCast, BitVec.toNat_ofNat]; exact Nat.mod_eq_of_lt (by omega)
  show IntKind.u32.wrap ((BitVec.ofInt 32 (a : Int) ^^^ BitVec.ofInt 32 (b : Int)).toNat : Int) = _
  rw [BitVec.toNat_xor, h1, h2, IntKind.wrap_u32]
  omega
theorem add32 (a b : Nat) : IntKind.u32.wrap ((a : Int) + (b : Int)) = (((a + b) % 4294967296 : Nat) : Int) := by rw [IntKind.wrap_u32]; omega
theorem rot_val {x k : Nat} (hx : x < 4294967296) (hk : k ≤ 32) : bits .or .u32 ((x : Int) / 2 ^ k) (IntKind.u32.wrap ((x : Int) * 2 ^ (32 - k))) = ((rotN x k : Nat) : Int) := by
  have e1 : ((x : Int) / 2 ^ k) = ((x / 2 ^ k : Nat) : Int) := by simp
  have e2 : IntKind.u32.wrap ((x : Int) * 2 ^ (32 - k)) = ((x * 2 ^ (32 - k) % 4294967296 : Nat) : Int) := by rw [IntKind.wrap_u32]; simp
  rw [e1, e2, or32 (Nat.lt_of_le_of_lt (Nat.div_le_self _ _) hx) (Nat.mod_lt _ (by decide)), rot_or hx hk]

theorem rot2 (x : Nat) (w : World) (hx : x < 4294967296) :
    Calls Try.prog 167 #[.int .u32 (x : Int), .int .i64 2] w fun e w' => e = .returned (.int .u32 ((rotN x 2 : Nat) : Int)) ∧ w = w' := by
  have hb : bits .and .u64 2 31 = 2 := by decide
  go_enter Try.func167, Try.ntmps167
  go_wp2
  go_ret
  exact ⟨by rw [← rot_val hx (by decide)]; rfl, rfl⟩

theorem rot6 (x : Nat) (w : World) (hx : x < 4294967296) :
    Calls Try.prog 167 #[.int .u32 (x : Int), .int .i64 6] w fun e w' => e = .returned (.int .u32 ((rotN x 6 : Nat) : Int)) ∧ w = w' := by
  have hb : bits .and .u64 6 31 = 6 := by decide
  go_enter Try.func167, Try.ntmps167
  go_wp2
  go_ret
  exact ⟨by rw [← rot_val hx (by decide)]; rfl, rfl⟩

theorem rot7 (x : Nat) (w : World) (hx : x < 4294967296) :
    Calls Try.prog 167 #[.int .u32 (x : Int), .int .i64 7] w fun e w' => e = .returned (.int .u32 ((rotN x 7 : Nat) : Int)) ∧ w = w' := by
  have hb : bits .and .u64 7 31 = 7 := by decide
  go_enter Try.func167, Try.ntmps167
  go_wp2
  go_ret
  exact ⟨by rw [← rot_val hx (by decide)]; rfl, rfl⟩

theorem rot11 (x : Nat) (w : World) (hx : x < 4294967296) :
    Calls Try.prog 167 #[.int .u32 (x : Int), .int .i64 11] w fun e w' => e = .returned (.int .u32 ((rotN x 11 : Nat) : Int)) ∧ w = w' := by
  have hb : bits .and .u64 11 31 = 11 := by decide
  go_enter Try.func167, Try.ntmps167
  go_wp2
  go_ret
  exact ⟨by rw [← rot_val hx (by decide)]; rfl, rfl⟩

theorem rot13 (x : Nat) (w : World) (hx : x < 4294967296) :
    Calls Try.prog 167 #[.int .u32 (x : Int), .int .i64 13] w fun e w' => e = .returned (.int .u32 ((rotN x 13 : Nat) : Int)) ∧ w = w' := by
  have hb : bits .and .u64 13 31 = 13 := by decide
  go_enter Try.func167, Try.ntmps167
  go_wp2
  go_ret
  exact ⟨by rw [← rot_val hx (by decide)]; rfl, rfl⟩

theorem rot17 (x : Nat) (w : World) (hx : x < 4294967296) :
    Calls Try.prog 167 #[.int .u32 (x : Int), .int .i64 17] w fun e w' => e = .returned (.int .u32 ((rotN x 17 : Nat) : Int)) ∧ w = w' := by
  have hb : bits .and .u64 17 31 = 17 := by decide
  go_enter Try.func167, Try.ntmps167
  go_wp2
  go_ret
  exact ⟨by rw [← rot_val hx (by decide)]; rfl, rfl⟩

theorem rot18 (x : Nat) (w : World) (hx : x < 4294967296) :
    Calls Try.prog 167 #[.int .u32 (x : Int), .int .i64 18] w fun e w' => e = .returned (.int .u32 ((rotN x 18 : Nat) : Int)) ∧ w = w' := by
  have hb : bits .and .u64 18 31 = 18 := by decide
  go_enter Try.func167, Try.ntmps167
  go_wp2
  go_ret
  exact ⟨by rw [← rot_val hx (by decide)]; rfl, rfl⟩

theorem rot19 (x : Nat) (w : World) (hx : x < 4294967296) :
    Calls Try.prog 167 #[.int .u32 (x : Int), .int .i64 19] w fun e w' => e = .returned (.int .u32 ((rotN x 19 : Nat) : Int)) ∧ w = w' := by
  have hb : bits .and .u64 19 31 = 19 := by decide
  go_enter Try.func167, Try.ntmps167
  go_wp2
  go_ret
  exact ⟨by rw [← rot_val hx (by decide)]; rfl, rfl⟩

theorem rot22 (x : Nat) (w : World) (hx : x < 4294967296) :
    Calls Try.prog 167 #[.int .u32 (x : Int), .int .i64 22] w fun e w' => e = .returned (.int .u32 ((rotN x 22 : Nat) : Int)) ∧ w = w' := by
  have hb : bits .and .u64 22 31 = 22 := by decide
  go_enter Try.func167, Try.ntmps167
  go_wp2
  go_ret
  exact ⟨by rw [← rot_val hx (by decide)]; rfl, rfl⟩

theorem rot25 (x : Nat) (w : World) (hx : x < 4294967296) :
    Calls Try.prog 167 #[.int .u32 (x : Int), .int .i64 25] w fun e w' => e = .returned (.int .u32 ((rotN x 25 : Nat) : Int)) ∧ w = w' := by
  have hb : bits .and .u64 25 31 = 25 := by decide
  go_enter Try.func167, Try.ntmps167
  go_wp2
  go_ret
  exact ⟨by rw [← rot_val hx (by decide)]; rfl, rfl⟩

end Go.Proofs.Ytiogogbkgekkdaa

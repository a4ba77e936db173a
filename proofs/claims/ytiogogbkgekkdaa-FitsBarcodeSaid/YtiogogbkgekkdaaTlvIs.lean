/- Layer 17: fields, and what tlv.Is tells of them. No condition. -/
import Derived.Test.YtiogogbkgekkdaaTlvNum
namespace Go.Proofs.Ytiogogbkgekkdaa
open Go.RowKit Go.Shelf
set_option linter.unusedVariables false
set_option maxRecDepth 100000
set_option linter.unusedSimpArgs false

/-- A field: its tag, its value. -/
structure Fd where
  tag : Int
  val : List Int
def tlvB : Int → List Fd → Bool
  | _, [] => true
  | last, f :: t => if f.tag ≤ last then false else if 255 < f.tag then false else if 255 < f.val.length then false else tlvB f.tag t
theorem tlvB_cons (last : Int) (f : Fd) (t : List Fd) : tlvB last (f :: t) = if f.tag ≤ last then false else if 255 < f.tag then false else if 255 < f.val.length then false else tlvB f.tag t := rfl
/-- The field at a place of memory. -/
def FdAt (w : World) (p : Addr) (f : Fd) : Prop :=
  ∃ (B : Option Addr) (c : Nat), w.cell? p = some (.int .i64 f.tag) ∧ w.cell? ⟨p.block, p.off + 1, none⟩ = some (.slice B f.val.length c) ∧ f.val.length ≤ c ∧ c ≤ 9223372036854775807 ∧ RdI w .u8 B f.val ∧ ∀ x ∈ f.val, 0 ≤ x ∧ x < 256
/-- The slice at A reads as the fields l. -/
def RdF (w : World) (A : Option Addr) (l : List Fd) : Prop :=
  l = [] ∨ ∃ ad, A = some ad ∧ ad.block < w.heap.size ∧ ∀ j, (h : j < l.length) → FdAt w (ad.add (j * 2)) l[j]
theorem FdAt.below {w w' : World} {p : Addr} {n : Nat} {f : Fd} (h : FdAt w p f) (hb : Below n w w') (hn : w.heap.size ≤ n) : FdAt w' p f := by
  obtain ⟨B, c, h1, h2, h5, h6, h7, h8⟩ := h
  have K : ∀ {a : Addr} {v : Value}, w.cell? a = some v → w'.cell? a = some v := fun hc => (hb.cell (Nat.lt_of_lt_of_le (World.block_lt_of_cell? w _ hc) hn)).trans hc
  exact ⟨B, c, K h1, K h2, h5, h6, h7.keep hb.size (fun b hbn => hb.block b (Nat.lt_of_lt_of_le hbn hn)), h8⟩
theorem RdF.below {w w' : World} {A : Option Addr} {l : List Fd} {n : Nat} (h : RdF w A l) (hb : Below n w w') (hn : w.heap.size ≤ n) : RdF w' A l := by
  rcases h with h | ⟨ad, e, hlt, hk⟩
  · exact .inl h
  · exact .inr ⟨ad, e, Nat.lt_of_lt_of_le hlt hb.size, fun j hj => (hk j hj).below hb hn⟩

set_option maxHeartbeats 4000000 in
theorem tlvIs_any (A : Option Addr) (c : Nat) (l : List Fd) (w : World) (hr : RdF w A l) (hl : l.length ≤ 9223372036854775807) :
    Calls Try.prog 99 #[.slice A l.length c] w fun e w' => e = .returned (.bool (tlvB 0 l)) ∧ Below w.heap.size w w' := by
  go_enter Try.func99, Try.ntmps99
  go_wp2
  go_loopw [3, 5, 8] (fun s _ i wr => ∃ (k : Nat) (la : Int), k ≤ l.length ∧ i = .int .i64 k ∧ s = .int .i64 la ∧ Hid (tlvB la (l.drop k) = tlvB 0 l) ∧ Below w.heap.size w wr) (fun _ _ i _ => l.length - (intOf i).toNat)
  case atStart => exact ⟨0, 0, Nat.zero_le _, rfl, rfl, Lib.hid (by simp), Below.refl _ _⟩
  case round =>
    obtain ⟨k, la, hk, rfl, rfl, hq, hbW⟩ := hrel
    by_cases hlt : k < l.length
    · have e := hq.out
      rw [List.drop_eq_getElem_cons hlt, tlvB_cons] at e
      rcases hr.below hbW (Nat.le_refl _) with h0 | ⟨ad, rfl, _, hka⟩
      · simp [h0] at hlt
      obtain ⟨B, c2, c0, c1, hcl, hcc, hsr, hsb⟩ := hka k hlt
      generalize l[k] = f at *
      obtain ⟨n2, hn2⟩ : ∃ n2, f.val.length = n2 := ⟨_, rfl⟩
      rw [hn2] at c1 e
      have HE := Lib.hid e
      clear e hq hka
      have k0 : (0 : Int) ≤ (k : Int) := by omega
      have k1 : (k : Int) < (l.length : Int) := by omega
      by_cases g1 : f.tag ≤ la
      · have e := HE.out
        rw [if_pos g1] at e
        have HX := Lib.hid e.symm
        clear e HE
        go_wp2
        go_ret
        exact ⟨by rw [HX.out] <;> rfl, bA hbW _⟩
      by_cases g2 : 255 < f.tag
      · have e := HE.out
        rw [if_neg g1, if_pos g2] at e
        have HX := Lib.hid e.symm
        clear e HE
        go_wp2
        go_ret
        exact ⟨by rw [HX.out] <;> rfl, bA hbW _⟩
      by_cases g3 : 255 < n2
      · have e := HE.out
        rw [if_neg g1, if_neg g2, if_pos g3] at e
        have HX := Lib.hid e.symm
        have g3' : (255 : Int) < (n2 : Int) := by omega
        clear e HE
        go_wp2
        go_ret
        exact ⟨by rw [HX.out] <;> rfl, bA hbW _⟩
      · have e := HE.out
        rw [if_neg g1, if_neg g2, if_neg g3] at e
        have HX := Lib.hid e
        have g3' : ¬ (255 : Int) < (n2 : Int) := by omega
        clear e HE
        go_wp2
        go_roundw
        case rel => exact ⟨k + 1, f.tag, by omega, by go_num, rfl, HX, bA hbW _⟩
        case measure => simp [intOf]; omega
    · have e := hq.out
      rw [List.drop_eq_nil_of_le (by omega)] at e
      have HE := Lib.hid (show tlvB 0 l = true from e.symm)
      clear e hq
      go_wp2
      go_ret
      exact ⟨by rw [HE.out] <;> rfl, hbW⟩
end Go.Proofs.Ytiogogbkgekkdaa

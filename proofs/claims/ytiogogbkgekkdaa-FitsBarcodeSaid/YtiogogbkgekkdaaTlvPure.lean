/- Layer 17, the plain facts: what was put is got again, and what was got is put as it was. No condition. -/
import Derived.Test.YtiogogbkgekkdaaTlvPut
namespace Go.Proofs.Ytiogogbkgekkdaa
open Go.RowKit
set_option linter.unusedVariables false
set_option maxRecDepth 100000
set_option linter.unusedSimpArgs false

def tlvGo : Nat → Int → List Int → List Fd → List Fd × Int
  | 0, _, _, _ => ([], 14)
  | _ + 1, _, [], acc => (acc, 0)
  | _ + 1, _, [_], _ => ([], 14)
  | fuel + 1, last, a :: b :: t, acc => if a ≤ last then ([], 13) else if t.length < b.toNat then ([], 14) else tlvGo fuel a (t.drop b.toNat) (acc ++ [⟨a, t.take b.toNat⟩])
def tlvGet (q : List Int) : List Fd × Int := tlvGo (q.length + 1) 0 q []
theorem tlvGo_put : ∀ (l : List Fd) (last : Int) (fuel : Nat) (acc : List Fd), tlvB last l = true → (putF l).length < fuel → tlvGo fuel last (putF l) acc = (acc ++ l, 0)
  | [], last, fuel + 1, acc, h, hf => by simp [putF, tlvGo]
  | f :: l, last, 0, acc, h, hf => by omega
  | [], last, 0, acc, h, hf => by omega
  | f :: l, last, fuel + 1, acc, h, hf => by
    rw [tlvB_cons] at h
    by_cases g1 : f.tag ≤ last
    · rw [if_pos g1] at h; cases h
    rw [if_neg g1] at h
    by_cases g2 : 255 < f.tag
    · rw [if_pos g2] at h; cases h
    rw [if_neg g2] at h
    by_cases g3 : 255 < f.val.length
    · rw [if_pos g3] at h; cases h
    rw [if_neg g3] at h
    rw [putF_cons] at hf ⊢
    simp only [List.length_cons, List.length_append] at hf
    have ih := tlvGo_put l f.tag fuel (acc ++ [⟨f.tag, f.val⟩]) h (by omega)
    unfold tlvGo
    rw [if_neg g1, Int.toNat_natCast, if_neg (by simp), List.take_left, List.drop_left, ih]
    simp
/-- What was put is got again. -/
theorem tlvGet_put {l : List Fd} (h : tlvB 0 l = true) : tlvGet (putF l) = (l, 0) := by
  unfold tlvGet
  rw [tlvGo_put l 0 _ [] h (by omega)]
  simp
theorem tlvGo_ok : ∀ (fuel : Nat) (last : Int) (q : List Int) (acc l : List Fd), tlvGo fuel last q acc = (l, 0) → (∀ x ∈ q, 0 ≤ x ∧ x < 256) → ∃ m, l = acc ++ m ∧ putF m = q ∧ tlvB last m = true
  | 0, last, q, acc, l, h, hb => by simp [tlvGo] at h
  | fuel + 1, last, [], acc, l, h, hb => by simp [tlvGo] at h; exact ⟨[], by simp [h], rfl, rfl⟩
  | fuel + 1, last, [_], acc, l, h, hb => by simp [tlvGo] at h
  | fuel + 1, last, a :: b :: t, acc, l, h, hb => by
    have ha := hb a (by simp)
    have hbb := hb b (by simp)
    unfold tlvGo at h
    by_cases g1 : a ≤ last
    · rw [if_pos g1] at h; simp at h
    rw [if_neg g1] at h
    by_cases g2 : t.length < b.toNat
    · rw [if_pos g2] at h; simp at h
    rw [if_neg g2] at h
    obtain ⟨m, hm, hp, hq⟩ := tlvGo_ok fuel a _ _ l h (fun x hx => hb x (by simp [List.mem_of_mem_drop hx]))
    have hl : (t.take b.toNat).length = b.toNat := by rw [List.length_take]; omega
    refine ⟨⟨a, t.take b.toNat⟩ :: m, by simp [hm], ?_, ?_⟩
    · rw [putF_cons, hp]
      simp only [hl, List.take_append_drop]
      rw [show ((b.toNat : Nat) : Int) = b by omega]
    · rw [tlvB_cons, if_neg g1, if_neg (by show ¬ 255 < a; omega), if_neg (by show ¬ 255 < (t.take b.toNat).length; omega)]
      exact hq
/-- What was got is put as it was, and is fields. -/
theorem tlvPut_get {q : List Int} {l : List Fd} (h : tlvGet q = (l, 0)) (hb : ∀ x ∈ q, 0 ≤ x ∧ x < 256) : putF l = q ∧ tlvB 0 l = true := by
  obtain ⟨m, hm, hp, hq⟩ := tlvGo_ok _ 0 q [] l h hb
  simp at hm
  subst hm
  exact ⟨hp, hq⟩
end Go.Proofs.Ytiogogbkgekkdaa

/- Layer 15's law StripeTags, walked. A leaf of an argument that is a slice of numbers: it reads as a list. An argument that is a slice of bytes: it reads as a list that memory has room for. No condition. -/
import Derived.Test.YtachkhjbckapoaaT28
import Derived.Test.YtachkhjbckapoaaT47
import Derived.Test.YtachkhjbckapoaaT09
import Derived.Test.YtachkhjbckapoaaT00
import Derived.SizedLaws
namespace Go.Proofs.Ytachkhjbckapoaa
open Go.RowKit
set_option linter.unusedVariables false
set_option maxRecDepth 100000
set_option linter.unusedSimpArgs false

theorem sTag_n (A B : Option Addr) (c d n m : Nat) (s l : List Int) (w : World) (hn : s.length = n) (hm : l.length = m) (hr : RdI w .u8 A s) (hs : RdI w .u8 B l) (hsl : n ≤ 1000) (hl : m ≤ 1000) (hsb : ∀ x ∈ s, 0 ≤ x ∧ x < 256) (hlb : ∀ x ∈ l, 0 ≤ x ∧ x < 256) :
    Calls Try.prog 20 #[.slice A n c, .slice B m d] w fun e w' => (∃ Ac cc, e = .returned (.slice Ac 10 cc) ∧ RdI w' .u8 Ac (tagS s l)) ∧ Below w.heap.size w w' := by
  subst hn hm
  refine (sTag_any A B c d s l w hr hs (by omega) (by omega) hsb hlb).mono ?_
  rintro e w' ⟨v, rfl, ho, hb⟩
  obtain ⟨Ac, cc, rfl, _, _⟩ := own_slice ho
  exact ⟨⟨Ac, cc, by rw [tagS_len], RdI.of_own ho⟩, hb⟩
theorem ref15Tag_n (A B : Option Addr) (c d n m : Nat) (s l : List Int) (w : World) (hn : s.length = n) (hm : l.length = m) (hr : RdI w .u8 A s) (hs : RdI w .u8 B l) (hsl : n ≤ 1000) (hsc : n ≤ c) (hl : m ≤ 1000) (hsb : ∀ x ∈ s, 0 ≤ x ∧ x < 256) (hlb : ∀ x ∈ l, 0 ≤ x ∧ x < 256) :
    Calls Try.prog 21 #[.slice A n c, .slice B m d] w fun e w' => (∃ Ac cc, e = .returned (.slice Ac 10 cc) ∧ RdI w' .u8 Ac (tagS s l)) ∧ Below w.heap.size w w' := by
  subst hn hm
  exact ref15Tag_any A B c d s l w hr hs (by omega) hsc (by omega) hsb hlb
set_option maxHeartbeats 4000000 in
theorem stripeTags_any (A B : Option Addr) (c d : Nat) (s l : List Int) (w : World) (hr : RdI w .u8 A s) (hs : RdI w .u8 B l) (hsc : s.length ≤ c) (hsb : ∀ x ∈ s, 0 ≤ x ∧ x < 256) (hlb : ∀ x ∈ l, 0 ≤ x ∧ x < 256) :
    Calls Try.prog 6 #[.slice A s.length c, .slice B l.length d] w fun e w' => e = .returned (.bool true) ∧ Below w.heap.size w w' := by
  obtain ⟨n, hn⟩ : ∃ n, s.length = n := ⟨_, rfl⟩
  obtain ⟨m, hm⟩ : ∃ m, l.length = m := ⟨_, rfl⟩
  rw [hn] at hsc ⊢
  rw [hm]
  have HN := Lib.hid hn
  have HM := Lib.hid hm
  have HR := Lib.hid hr
  have HS := Lib.hid hs
  have HSB := Lib.hid hsb
  have HLB := Lib.hid hlb
  clear hn hm hr hs hsb hlb
  by_cases h1 : 1000 < n
  · have d1 : (1000 : Int) < (n : Int) := by omega
    go_enter Try.func6, Try.ntmps6
    go_wp2
    go_ret
    exact ⟨rfl, Below.refl _ _⟩
  · have d1 : ¬ (1000 : Int) < (n : Int) := by omega
    by_cases h2 : 1000 < m
    · have d2 : (1000 : Int) < (m : Int) := by omega
      go_enter Try.func6, Try.ntmps6
      go_wp2
      go_ret
      exact ⟨rfl, Below.refl _ _⟩
    · have d2 : ¬ (1000 : Int) < (m : Int) := by omega
      have T1 := fun W h1' h2' => sTag_n A B c d n m s l W HN.out HM.out h1' h2' (by omega) (by omega) HSB.out HLB.out
      have T2 := fun W h1' h2' => ref15Tag_n A B c d n m s l W HN.out HM.out h1' h2' (by omega) hsc (by omega) HSB.out HLB.out
      have hl10 := tagS_len s l
      generalize tagS s l = T at *
      have HT := Lib.hid hl10
      clear hl10
      have hSm : ∀ (Aa Ab : Option Addr) (ca cb : Nat) (W : World), RdI W .u8 Aa T → RdI W .u8 Ab T → Calls Try.prog 12 #[.slice Aa 10 ca, .slice Ab 10 cb] W fun e w' => e = .returned (.bool true) ∧ Below W.heap.size W w' := by
        intro Aa Ab ca cb W h1 h2
        have h := same01_any Aa Ab ca cb T T W h1 h2 (by rw [HT.out]; decide) (by rw [HT.out]; decide)
        rw [HT.out] at h
        refine h.mono ?_
        rintro e w' ⟨rfl, k, rfl⟩
        exact ⟨by simp, bN (Below.refl _ _) k⟩
      go_enter Try.func6, Try.ntmps6
      go_wp2_with (first | (go_at_call 19; (with_reducible refine (coded15_any _).mono ?_); rintro e w4 ⟨rfl, hb4⟩; have HB4 := Lib.hid hb4; clear hb4) | (go_at_call 20; (with_reducible refine (T1 _ (HR.out.below HB4.out) (HS.out.below HB4.out)).mono ?_); rintro e w5 ⟨⟨Aa, ca, rfl, hra⟩, hb5⟩; have HB5 := Lib.hid (bT HB4.out hb5); have HRA := Lib.hid hra; clear hra hb5) | (go_at_call 21; (with_reducible refine (T2 _ (HR.out.below HB5.out) (HS.out.below HB5.out)).mono ?_); rintro e w6 ⟨⟨Ab, cb, rfl, hrb⟩, hb6⟩; have HB6 := Lib.hid (bT HB5.out hb6); have HRA6 := Lib.hid (HRA.out.below hb6); have HRB6 := Lib.hid hrb; clear hb6 hrb) | (go_at_call 12; (with_reducible refine (hSm _ _ _ _ _ HRA6.out HRB6.out).mono ?_); rintro e w7 ⟨rfl, hb7⟩; have HB7 := Lib.hid (bT HB6.out hb7); clear hb7))
      go_ret
      exact ⟨rfl, HB7.out⟩
end Go.Proofs.Ytachkhjbckapoaa

namespace Go.Proofs.Ytachkhjbckapoaa
open Go.RowKit
set_option linter.unusedVariables false
set_option maxRecDepth 100000

theorem row_caps {k : IntKind} {w : World} {a : Option Addr} {len cap : Nat} {zs : List Int} (h : IsRow k w a len cap zs) : len ≤ cap ∧ cap ≤ 9223372036854775807 := by
  rcases h with ⟨_, rfl, rfl, _⟩ | ⟨x, _, hl, hm, _, _, _⟩
  · exact ⟨Nat.le_refl _, by omega⟩
  · unfold maxLen at hm; exact ⟨hl, by omega⟩
theorem leaf_row {H : Type} {enc : TypeId × Value → H} {P : Program} {w : World} {base : Nat} {held : Bool} {t e : TypeId} {k : IntKind} {v : Value} (ht : P.underlying t = some (.slice e)) (he : P.underlying e = some (.int k)) (hc : P.cellsOf e = 1)
    (h : Leaf enc P w base (fun _ => true) held t v) : ∃ (a : Option Addr) (len cap : Nat) (zs : List Int), v = .slice a len cap ∧ IsRow k w a len cap zs := by
  obtain ⟨m, y, hf⟩ := h
  rcases Go.ChangeShapes.open_ints ht he hc hf with ⟨hcs, _⟩ | ⟨x, l, c, zs, hcs, _, hl, hm, hz, _, hcell, hwz⟩
  · have e : v = .slice none 0 0 := by simpa using hcs
    exact ⟨none, 0, 0, [], e, .inl ⟨rfl, rfl, rfl, rfl⟩⟩
  · have e : v = .slice (some x) l c := by simpa using hcs
    exact ⟨some x, l, c, zs, e, .inr ⟨_, rfl, hl, hm, by simpa using hz, hcell, hwz⟩⟩
end Go.Proofs.Ytachkhjbckapoaa

namespace Go.Proofs.Ytachkhjbckapoaa
open Go.RowKit
set_option linter.unusedVariables false
set_option maxRecDepth 100000

theorem ints_sized {H : Type} {enc : TypeId × Value → H} {P : Program} {w : World} {held : Bool} {t e : TypeId} {k : IntKind} {fuel : Nat} {a : Option Addr} {len cap : Nat} {d : DataW H} {p : List MemPlace} (ht : P.underlying t = some (.slice e)) (he : P.underlying e = some (.int k)) (hc : P.cellsOf e = 1) (hb : P.bytesOf e = 1)
    (hf : DataW.trod enc P w 0 (fun _ => true) held fuel t [.slice a len cap] = some (d, p)) {ts : List TypeId} {ds : List (DataW H)} (hsz : (DataW.weightsEach P ts ds).all (· ≤ reachBytes) = true) {j : Nat} (hj : ts[j]? = some t) (hd : ds[j]? = some d) :
    len ≤ 140737488351232 := by
  rcases Go.ChangeShapes.open_ints ht he hc hf with ⟨hcs, _⟩ | ⟨x, l, c, zs, hcs, _, hl, hm, hz, hx, hcell, hwz⟩
  · have e : (Value.slice a len cap) = .slice none 0 0 := by simpa using hcs
    injection e with _ e _
    omega
  · have e : (Value.slice a len cap) = .slice (some x) l c := by simpa using hcs
    injection e with _ e1 e2
    obtain rfl : d = .slice (Go.ChangeShapes.lits k (zs.take l)) (Go.ChangeShapes.lits k (zs.drop l)) := congrArg Prod.fst hx
    have h := sized_slice hsz hj hd ht
    rw [hb] at h
    have hz' : zs.length = c := by simpa using hz
    simp only [Go.ChangeShapes.lits, List.length_map, List.length_take, List.length_drop] at h
    have hr : reachBytes = 140737488351232 := rfl
    omega
end Go.Proofs.Ytachkhjbckapoaa

/- Layer 12's laws, walked: BcdNumbers and BcdJoins come to true. No condition. -/
import Derived.Test.YthejnlelegcgfaaBcdCoded
namespace Go.Proofs.Ythejnlelegcgfaa
open Go.RowKit
set_option linter.unusedVariables false
set_option linter.unusedSimpArgs false

theorem cap_of_row {k : IntKind} {w : World} {a : Option Addr} {len cap : Nat} {zs : List Int} (h : IsRow k w a len cap zs) : len ≤ cap ∧ cap ≤ 9223372036854775807 := by
  rcases h with ⟨rfl, rfl, rfl, rfl⟩ | ⟨x, rfl, hl, hm, hz, hc, hw⟩
  · exact ⟨Nat.le_refl _, by omega⟩
  · unfold maxLen at hm; exact ⟨hl, by omega⟩

theorem joinGo_len : ∀ (l m acc : List Int), (joinGo l m acc).1.length ≤ acc.length + 18 * l.length
  | [], m, acc => by simp [joinGo]
  | v :: l, [], acc => by simp [joinGo]
  | v :: l, x :: m, acc => by
    rw [joinGo_cons]
    split
    · simp
    · have h := joinGo_len l m (acc ++ putL v x)
      have := putL_len v x
      simp only [List.length_append, List.length_cons] at *
      omega
theorem joinR_len (l m : List Int) : (joinR l m).1.length ≤ 9223372036854775807 := by
  by_cases h : l.length ≠ m.length ∨ 20 < l.length
  · rw [joinR_arg h]; simp
  · rw [joinR_go (by omega) (by omega)]
    have := joinGo_len l m []
    simp at this; omega
theorem splitGo_len : ∀ (m l acc : List Int), (splitGo l m acc).1.length ≤ acc.length + m.length
  | [], l, acc => by simp [splitGo]
  | x :: m, l, acc => by
    rw [splitGo_cons]
    split
    · simp
    · have h := splitGo_len m (l.drop x.toNat) (acc ++ [(getR (l.take x.toNat)).1])
      simp only [List.length_append, List.length_cons, List.length_nil] at *
      omega
theorem splitR_len2 (l m : List Int) : (splitR l m).1.length ≤ 9223372036854775807 := by
  unfold splitR
  split
  · simp
  · split
    · simp
    · split
      · simp
      · have := splitGo_len m l []
        simp at this; omega

set_option maxHeartbeats 8000000 in
set_option maxRecDepth 100000 in
theorem bcdNumbers_any (n wd : Int) (A : Option Addr) (c : Nat) (l : List Int) (w : World) (h9 : n ≤ 9223372036854775807) (hr : RdI w .u8 A l) (hl : l.length ≤ 9223372036854775807) (hb : ∀ x ∈ l, 0 ≤ x ∧ x < 256) :
    Calls Try.prog 5 #[.int .i64 n, .int .i64 wd, .slice A l.length c] w fun e w' => e = .returned (.bool true) ∧ Below w.heap.size w w' := by
  by_cases h1 : 1000 < l.length
  · go_enter Try.func5, Try.ntmps5
    go_wp2
    go_ret
    exact ⟨rfl, (by repeat (first | (with_reducible exact bR _) | (with_reducible refine bT ?_ (by assumption)) | (with_reducible apply bA) | (with_reducible apply bD) | (with_reducible apply bN) | (with_reducible refine bS ?_ (by first | omega | (simp; done) | (simp; omega)))))⟩
  have HB0 := Lib.hid (bR w)
  go_enter Try.func5, Try.ntmps5
  go_wp2_with fail
  refine (bcdPut_any n wd _ h9).mono ?_
  rintro e w1 ⟨u, rfl, uo, hb1⟩
  have HB1 := Lib.hid (bT HB0.out hb1)
  replace hr := hr.below hb1
  obtain ⟨uA, uc, rfl, _, _⟩ := own_slice uo
  have ur := RdI.of_own uo
  clear uo
  clear hb1
  go_wp2_with fail
  refine (refPut_any n wd _ h9).mono ?_
  rintro e w2 ⟨v, rfl, vo, hb2⟩
  have HB2 := Lib.hid (bT HB1.out hb2)
  replace hr := hr.below hb2
  replace ur := ur.below hb2
  obtain ⟨vA, vc, rfl, _, _⟩ := own_slice vo
  have vr := RdI.of_own vo
  clear vo
  clear hb2
  go_wp2_with fail
  refine (bcdGet_any A c l _ hr hb).mono ?_
  rintro e w3 ⟨rfl, rfl⟩
  go_wp2_with fail
  refine (refGet_any A c l _ hr hb).mono ?_
  rintro e w3 ⟨rfl, rfl⟩
  go_wp2_with fail
  refine (coded_any _).mono ?_
  rintro e w3 ⟨rfl, hb3⟩
  have HB3 := Lib.hid (bT HB2.out hb3)
  replace hr := hr.below hb3
  replace ur := ur.below hb3
  replace vr := vr.below hb3
  clear hb3
  go_wp2_with fail
  have hpl := putL_len n wd
  refine (same01_any _ _ _ _ (putL n wd) (putL n wd) _ ur vr (by omega) (by omega)).mono ?_
  rintro e w4 ⟨rfl, n4, rfl⟩
  have hself : (putL n wd == putL n wd) = true := by simp
  go_wp2
  go_ret
  exact ⟨by simp, by have h := HB3.out; repeat (first | (with_reducible exact bR _) | (with_reducible refine bT ?_ (by assumption)) | (with_reducible apply bA) | (with_reducible apply bD) | (with_reducible apply bN) | (with_reducible refine bS ?_ (by first | omega | (simp; done) | (simp; omega))))⟩

set_option maxHeartbeats 8000000 in
set_option maxRecDepth 100000 in
theorem bcdJoins_any (A B C : Option Addr) (c d q : Nat) (l m b : List Int) (w : World) (hr : RdI w .i64 A l) (hs : RdI w .i64 B m) (ht : RdI w .u8 C b)
    (hl : l.length ≤ 9223372036854775807) (hm : m.length ≤ 9223372036854775807) (hbl : b.length ≤ 9223372036854775807) (hbq : b.length ≤ q ∧ q ≤ 9223372036854775807) (hb : ∀ x ∈ b, 0 ≤ x ∧ x < 256) (hv : ∀ x ∈ l, x ≤ 9223372036854775807) :
    Calls Try.prog 6 #[.slice A l.length c, .slice B m.length d, .slice C b.length q] w fun e w' => e = .returned (.bool true) ∧ Below w.heap.size w w' := by
  by_cases h1 : 100 < l.length
  · go_enter Try.func6, Try.ntmps6
    go_wp2
    go_ret
    exact ⟨rfl, (by repeat (first | (with_reducible exact bR _) | (with_reducible refine bT ?_ (by assumption)) | (with_reducible apply bA) | (with_reducible apply bD) | (with_reducible apply bN) | (with_reducible refine bS ?_ (by first | omega | (simp; done) | (simp; omega)))))⟩
  by_cases h2 : 100 < m.length
  · go_enter Try.func6, Try.ntmps6
    go_wp2
    go_ret
    exact ⟨rfl, (by repeat (first | (with_reducible exact bR _) | (with_reducible refine bT ?_ (by assumption)) | (with_reducible apply bA) | (with_reducible apply bD) | (with_reducible apply bN) | (with_reducible refine bS ?_ (by first | omega | (simp; done) | (simp; omega)))))⟩
  by_cases h3 : 1000 < b.length
  · go_enter Try.func6, Try.ntmps6
    go_wp2
    go_ret
    exact ⟨rfl, (by repeat (first | (with_reducible exact bR _) | (with_reducible refine bT ?_ (by assumption)) | (with_reducible apply bA) | (with_reducible apply bD) | (with_reducible apply bN) | (with_reducible refine bS ?_ (by first | omega | (simp; done) | (simp; omega)))))⟩
  have HB0 := Lib.hid (bR w)
  have HJ := Lib.hid (joinR_len l m)
  have HS := Lib.hid (splitR_len2 b m)
  go_enter Try.func6, Try.ntmps6
  go_wp2_with fail
  refine (bcdJoin_any A B c d l m _ hr hs hl hm hv).mono ?_
  rintro e w1 ⟨u, rfl, uo, hb1⟩
  have HB1 := Lib.hid (bT HB0.out hb1)
  replace hr := hr.below hb1
  replace hs := hs.below hb1
  replace ht := ht.below hb1
  obtain ⟨uA, uc, rfl, _, _⟩ := own_slice uo
  have ur := RdI.of_own uo
  clear uo
  clear hb1
  go_wp2_with fail
  refine (refJoin_any A B c d l m _ hr hs hl hm hv).mono ?_
  rintro e w2 ⟨v, rfl, vo, hb2⟩
  have HB2 := Lib.hid (bT HB1.out hb2)
  replace hr := hr.below hb2
  replace hs := hs.below hb2
  replace ht := ht.below hb2
  replace ur := ur.below hb2
  obtain ⟨vA, vc, rfl, _, _⟩ := own_slice vo
  have vr := RdI.of_own vo
  clear vo
  clear hb2
  go_wp2_with fail
  refine (bcdSplit_any C B q d b m _ ht hs hbq.1 hbq.2 hm hb).mono ?_
  rintro e w3 ⟨x, rfl, xo, hb3⟩
  have HB3 := Lib.hid (bT HB2.out hb3)
  replace hr := hr.below hb3
  replace hs := hs.below hb3
  replace ht := ht.below hb3
  replace ur := ur.below hb3
  replace vr := vr.below hb3
  obtain ⟨xA, xc, rfl, _, _⟩ := own_slice xo
  have xr := RdI.of_own xo
  clear xo
  clear hb3
  go_wp2_with fail
  refine (refSplit_any C B q d b m _ ht hs hbq.1 hbq.2 hm hb).mono ?_
  rintro e w4 ⟨y, rfl, yo, hb4⟩
  have HB4 := Lib.hid (bT HB3.out hb4)
  replace hr := hr.below hb4
  replace hs := hs.below hb4
  replace ht := ht.below hb4
  replace ur := ur.below hb4
  replace vr := vr.below hb4
  replace xr := xr.below hb4
  obtain ⟨yA, yc, rfl, _, _⟩ := own_slice yo
  have yr := RdI.of_own yo
  clear yo
  clear hb4
  go_wp2_with fail
  refine (coded_any _).mono ?_
  rintro e w5 ⟨rfl, hb5⟩
  have HB5 := Lib.hid (bT HB4.out hb5)
  replace ur := ur.below hb5
  replace vr := vr.below hb5
  replace xr := xr.below hb5
  replace yr := yr.below hb5
  clear hb5
  go_wp2_with fail
  refine (same01_any _ _ _ _ (joinR l m).1 (joinR l m).1 _ ur vr (HJ.out) (HJ.out)).mono ?_
  rintro e w6 ⟨rfl, n6, rfl⟩
  have hself : ((joinR l m).1 == (joinR l m).1) = true := by simp
  go_wp2_with fail
  refine (same07_any _ _ _ _ (splitR b m).1 (splitR b m).1 _ (by exact xr) (by exact yr) (HS.out) (HS.out)).mono ?_
  rintro e w7 ⟨rfl, n7, rfl⟩
  have hself2 : ((splitR b m).1 == (splitR b m).1) = true := by simp
  go_wp2
  go_ret
  exact ⟨by simp, by have h := HB5.out; repeat (first | (with_reducible exact bR _) | (with_reducible refine bT ?_ (by assumption)) | (with_reducible apply bA) | (with_reducible apply bD) | (with_reducible apply bN) | (with_reducible refine bS ?_ (by first | omega | (simp; done) | (simp; omega))))⟩
end Go.Proofs.Ythejnlelegcgfaa

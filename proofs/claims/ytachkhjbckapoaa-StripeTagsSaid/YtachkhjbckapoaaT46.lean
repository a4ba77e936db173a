/- Layer 15, plain: what was encoded is decoded, and what was decoded is encoded; a key more. No condition. -/
import Derived.Test.YtachkhjbckapoaaT39
import Derived.Test.YtachkhjbckapoaaT45
namespace Go.Proofs.Ytachkhjbckapoaa
open Go.RowKit
set_option linter.unusedVariables false
set_option maxRecDepth 100000
set_option linter.unusedSimpArgs false

theorem lay_getL {l x : List Int} (hl : l.length = 15) (h : layR (tkL l) l = (x, 0)) : layG x = (l, 0) := by
  obtain ⟨a0, a1, a2, a3, a4, a5, a6, a7, a8, a9, a10, a11, a12, a13, a14, rfl⟩ := list15 l hl
  exact lay_get h
theorem lay_putL {l x : List Int} (hb : ∀ y ∈ x, 0 ≤ y ∧ y < 256) (h : layG x = (l, 0)) : l.length = 15 ∧ layR (tkL l) l = (x, 0) := by
  obtain ⟨c0, c1, c2, c3, c4, c5, c6, c7, c8, c9, c10, c11, c12, c13, c14, hc⟩ := layG_15 x
  have hl : l = [c0, c1, c2, c3, c4, c5, c6, c7, c8, c9, c10, c11, c12, c13, c14] := by rw [← hc, h]
  subst hl
  exact ⟨rfl, (lay_put hb h).1⟩
theorem layR_byteL {l x : List Int} {e : Int} (hl : l.length = 15) (h : layR (tkL l) l = (x, e)) : ∀ y ∈ x, 0 ≤ y ∧ y < 256 := by
  obtain ⟨a0, a1, a2, a3, a4, a5, a6, a7, a8, a9, a10, a11, a12, a13, a14, rfl⟩ := list15 l hl
  exact layR_byte h
theorem st_parts {ks : List Ky} {l b : List Int} (h : encS ks l = (b, 0)) : ∃ x k, ringB ks = true ∧ layR (tkL l) l = (x, 0) ∧ findE ks (l.getD 11 0) = (some k, 0) ∧ trackPut (x ++ tagS k.sec x) = (b, 0) := by
  unfold encS at h
  cases hz : ringB ks with
  | false => rw [hz, if_pos rfl] at h; exact absurd (congrArg Prod.snd h) (by simp)
  | true =>
    rw [hz, if_neg (by decide)] at h
    by_cases hp : (layR (tkL l) l).2 ≠ 0
    · rw [if_pos hp] at h; exact absurd (congrArg Prod.snd h) hp
    · rw [if_neg hp] at h
      obtain ⟨⟨fk, fz⟩, hf⟩ : ∃ f, findE ks (l.getD 11 0) = f := ⟨_, rfl⟩
      rw [hf] at h
      cases fk with
      | none => exact absurd (congrArg Prod.snd h) (fndE_none hf)
      | some k =>
        obtain rfl := fndE_some hf
        exact ⟨_, k, rfl, Prod.ext rfl (by simpa using hp), hf, h⟩
theorem encS_mk {ks : List Ky} {l x : List Int} {k : Ky} (h1 : ringB ks = true) (h2 : layR (tkL l) l = (x, 0)) (h3 : findE ks (l.getD 11 0) = (some k, 0)) : encS ks l = trackPut (x ++ tagS k.sec x) := by
  unfold encS
  rw [h1, if_neg (by decide), h2, if_neg (by simp), h3]
theorem decS_mk {ks : List Ky} {s x t : List Int} {bk : Bool} (h1 : ringB ks = true) (h2 : swipeRd s = (x ++ t, bk, 0)) (ht : t.length = 10) : decS ks s = decT ks x t := by
  unfold decS
  have hn : (x ++ t).length = x.length + 10 := by rw [List.length_append, ht]
  rw [h1, if_neg (by decide), h2, if_neg (by simp)]
  simp only
  rw [hn, if_neg (by omega), Nat.add_sub_cancel, List.take_left, List.drop_left]
theorem st_dec {ks : List Ky} {l s x : List Int} {k : Ky} {bk : Bool} (hl : l.length = 15) (h1 : ringB ks = true) (h2 : layR (tkL l) l = (x, 0)) (h3 : findE ks (l.getD 11 0) = (some k, 0)) (h4 : swipeRd s = (x ++ tagS k.sec x, bk, 0)) : decS ks s = (l, 0) := by
  rw [decS_mk h1 h4 (tagS_len _ _)]
  unfold decT
  rw [lay_getL hl h2, if_neg (by simp)]
  simp only
  rw [h3]
  simp
theorem dig_nonneg {x s : List Int} (h : ∀ y ∈ x, 0 ≤ y ∧ y < 256) : ∀ y ∈ x ++ tagS s x, 0 ≤ y := by
  intro y hy
  rcases List.mem_append.1 hy with hy | hy
  · exact (h y hy).1
  · exact (tagS_9 s x y hy).1
theorem swipe_ok {b d : List Int} (h : trackGet b = (d, 0)) : swipeRd b = (d, false, 0) := by
  unfold swipeRd
  rw [h, if_pos rfl]
theorem swipe_back {b d : List Int} (h1 : (trackGet b).2 ≠ 0) (h : trackGet (turnB b) = (d, 0)) : swipeRd b = (d, true, 0) := by
  unfold swipeRd
  rw [if_neg h1, h, if_pos rfl]
/-- What was encoded is decoded; so is that turned round, if it is no track by itself. -/
theorem st_back {ks : List Ky} {l b : List Int} (hl : l.length = 15) (h : encS ks l = (b, 0)) : decS ks b = (l, 0) ∧ ((trackGet (turnB b)).2 ≠ 0 → decS ks (turnB b) = (l, 0)) ∧ (∀ y ∈ b, 0 ≤ y ∧ y < 256) ∧ b.length ≤ 50 := by
  obtain ⟨x, k, h1, h2, h3, h4⟩ := st_parts h
  have hx := layR_byteL hl h2
  have hg := track_back (dig_nonneg hx) h4
  have hbb : ∀ y ∈ b, 0 ≤ y ∧ y < 256 := by
    obtain ⟨_, _, rfl⟩ := trackPut_ok (dig_nonneg hx) h4
    exact packN_byte _ _
  refine ⟨st_dec hl h1 h2 h3 (swipe_ok hg), fun ht => ?_, hbb, (track_one hg).2.2.2⟩
  exact st_dec hl h1 h2 h3 (swipe_back ht (by rw [turn_turn hbb]; exact hg))
theorem decT_ok {ks : List Ky} {x t l : List Int} (h : decT ks x t = (l, 0)) : ∃ k, layG x = (l, 0) ∧ findE ks (l.getD 11 0) = (some k, 0) ∧ t = tagS k.sec x := by
  unfold decT at h
  by_cases hg : (layG x).2 ≠ 0
  · rw [if_pos hg] at h; exact absurd (congrArg Prod.snd h) hg
  · rw [if_neg hg] at h
    obtain ⟨⟨fk, fz⟩, hf⟩ : ∃ f, findE ks ((layG x).1.getD 11 0) = f := ⟨_, rfl⟩
    rw [hf] at h
    cases fk with
    | none => exact absurd (congrArg Prod.snd h) (fndE_none hf)
    | some k =>
      obtain rfl := fndE_some hf
      simp only at h
      by_cases ht : (t == tagS k.sec x) = true
      · rw [if_pos ht] at h
        have hl := congrArg Prod.fst h
        simp only at hl
        have hgl : layG x = (l, 0) := Prod.ext hl (by simpa using hg)
        rw [hl] at hf
        exact ⟨k, hgl, hf, by simpa using ht⟩
      · rw [if_neg ht] at h
        exact absurd (congrArg Prod.snd h) (by simp)
theorem decS_ok {ks : List Ky} {s l : List Int} (h : decS ks s = (l, 0)) : ∃ x bk k, ringB ks = true ∧ swipeRd s = (x ++ tagS k.sec x, bk, 0) ∧ layG x = (l, 0) ∧ findE ks (l.getD 11 0) = (some k, 0) := by
  unfold decS at h
  cases hz : ringB ks with
  | false => rw [hz, if_pos rfl] at h; exact absurd (congrArg Prod.snd h) (by simp)
  | true =>
    rw [hz, if_neg (by decide)] at h
    obtain ⟨⟨d, bk, z⟩, hw⟩ : ∃ w, swipeRd s = w := ⟨_, rfl⟩
    rw [hw] at h ⊢
    simp only at h
    by_cases hz0 : z ≠ 0
    · rw [if_pos hz0] at h; exact absurd (congrArg Prod.snd h) hz0
    · rw [if_neg hz0] at h
      by_cases hd : d.length < 10
      · rw [if_pos hd] at h; exact absurd (congrArg Prod.snd h) (by simp)
      · rw [if_neg hd] at h
        obtain ⟨k, g1, g2, g3⟩ := decT_ok h
        refine ⟨d.take (d.length - 10), bk, k, rfl, ?_, g1, g2⟩
        rw [← g3, List.take_append_drop, show z = 0 by simpa using hz0]
/-- What is decoded is encoded as the very same bytes, or as these turned round. -/
theorem st_one {ks : List Ky} {s l : List Int} (h : decS ks s = (l, 0)) : l.length = 15 ∧ (swipeRd s).2.2 = 0 ∧ encS ks l = (if (swipeRd s).2.1 then turnB s else s, 0) := by
  obtain ⟨x, bk, k, h1, h2, h3, h4⟩ := decS_ok h
  have hx : ∀ y ∈ x, 0 ≤ y ∧ y < 256 := by
    intro y hy
    have := swipe_9 s y (by rw [h2]; exact List.mem_append.2 (.inl hy))
    omega
  obtain ⟨hl, hp⟩ := lay_putL hx h3
  refine ⟨hl, by rw [h2], ?_⟩
  rw [encS_mk h1 hp h4, h2]
  simp only
  unfold swipeRd at h2
  by_cases g1 : (trackGet s).2 = 0
  · rw [if_pos g1] at h2
    have e1 := congrArg Prod.fst h2
    have e2 := congrArg (fun q => q.2.1) h2
    simp only at e1 e2
    subst e2
    exact (track_one (Prod.ext e1 g1)).1
  · rw [if_neg g1] at h2
    by_cases g2 : (trackGet (turnB s)).2 = 0
    · rw [if_pos g2] at h2
      have e1 := congrArg Prod.fst h2
      have e2 := congrArg (fun q => q.2.1) h2
      simp only at e1 e2
      subst e2
      exact (track_one (Prod.ext e1 g2)).1
    · rw [if_neg g2] at h2
      exact absurd (congrArg (fun q => q.2.2) h2) g1
/-- What a stripe says by a ring with a key more. -/
theorem st_keys {l : List Ky} {k : Ky} {p : Nat} (s : List Int) (hr : ringB l = true) (hr2 : ringB (addL l p k) = true) (hno : (l.any fun x => x.id == k.id) = false) :
    ((decS l s).2 = 10 → ((decS (addL l p k) s).2 = 10 ∨ (decS (addL l p k) s).2 = 11 ∨ ((decS (addL l p k) s).2 = 0 ∧ (decS (addL l p k) s).1.getD 11 0 = k.id))) ∧ ((decS l s).2 ≠ 10 → decS (addL l p k) s = decS l s) := by
  have e1 : ∀ ks : List Ky, ringB ks = true → decS ks s = (if (swipeRd s).2.2 ≠ 0 then (zeroC, (swipeRd s).2.2) else if (swipeRd s).1.length < 10 then (zeroC, 14)
    else decT ks ((swipeRd s).1.take ((swipeRd s).1.length - 10)) ((swipeRd s).1.drop ((swipeRd s).1.length - 10))) := fun ks h => by unfold decS; rw [h, if_neg (by simp)]
  rw [e1 _ hr, e1 _ hr2]
  by_cases h1 : (swipeRd s).2.2 ≠ 0
  · rw [if_pos h1, if_pos h1]
    exact ⟨fun h => .inl h, fun _ => rfl⟩
  rw [if_neg h1, if_neg h1]
  by_cases h0 : (swipeRd s).1.length < 10
  · rw [if_pos h0, if_pos h0]
    exact ⟨fun h => .inl h, fun _ => rfl⟩
  rw [if_neg h0, if_neg h0]
  generalize (swipeRd s).1.take ((swipeRd s).1.length - 10) = x
  generalize (swipeRd s).1.drop ((swipeRd s).1.length - 10) = t
  by_cases h2 : (layG x).2 ≠ 0
  · have e2 : ∀ ks : List Ky, decT ks x t = (zeroC, (layG x).2) := fun ks => by unfold decT; rw [if_pos h2]
    rw [e2, e2]
    exact ⟨fun h => .inl h, fun _ => rfl⟩
  have e2 : ∀ ks : List Ky, decT ks x t = (match findE ks ((layG x).1.getD 11 0) with
      | (none, e) => (zeroC, e)
      | (some k, _) => if (t == tagS k.sec x) = true then ((layG x).1, 0) else (zeroC, 11)) := fun ks => by
    unfold decT
    rw [if_neg h2]
    rfl
  rw [e2, e2]
  generalize hid : (layG x).1.getD 11 0 = id
  have e3 : ∀ ks : List Ky, ringB ks = true → findE ks id = ((if 0 ≤ id ∧ id < 100 then match ks.find? (fun k => k.id == id) with
      | some k => (some k, 0)
      | none => (none, 10)
    else (none, 10)) : Option Ky × Int) := fun ks h => by
    unfold findE
    rw [if_neg (by rw [h]; simp)]
    rfl
  by_cases h4 : id = k.id
  · have hn : l.find? (fun x => x.id == id) = none := any_find (by rw [h4]; exact hno)
    have f1 : findE l id = (none, 10) := by rw [e3 _ hr, hn]; split <;> rfl
    rw [f1]
    simp only
    refine ⟨fun _ => ?_, fun h => absurd rfl h⟩
    rw [e3 _ hr2, find_add id hno, if_pos h4]
    by_cases h3 : 0 ≤ id ∧ id < 100
    · rw [if_pos h3]
      simp only
      by_cases h5 : (t == tagS k.sec x) = true
      · rw [if_pos h5]
        right; right
        exact ⟨rfl, by show (layG x).1.getD 11 0 = k.id; rw [hid, h4]⟩
      · rw [if_neg h5]
        right; left; rfl
    · rw [if_neg h3]
      left; rfl
  · have f1 : findE (addL l p k) id = findE l id := by rw [e3 _ hr, e3 _ hr2, find_add id hno, if_neg h4]
    rw [f1]
    exact ⟨fun h => .inl h, fun _ => rfl⟩

-- the example
def r1L : List Int := [42, 1, 3, 20, 2, 0, 0, 10, 1, 1, 0, 5, 1, 0, 0]
def k5K : Ky := ⟨5, [1, 2, 3], 0, 99⟩
def k6K : Ky := ⟨5, [1, 2, 4], 0, 99⟩
def x1L : List Int := (layR (tkL r1L) r1L).1
theorem x1_err : (layR (tkL r1L) r1L).2 = 0 := by kernel_rfl
theorem st_ring5 : ringB [k5K] = true := by decide
theorem st_ring6 : ringB [k6K] = true := by decide
theorem st_find5 : findE [k5K] 5 = (some k5K, 0) := by kernel_rfl
theorem st_find6 : findE [k6K] 5 = (some k6K, 0) := by kernel_rfl
theorem st_tags : (tagS [1, 2, 3] x1L == tagS [1, 2, 4] x1L) = false := by kernel_rfl
theorem st_len : (trackPut (x1L ++ tagS [1, 2, 3] x1L)).1.length = 27 := by kernel_rfl
theorem st_err : (trackPut (x1L ++ tagS [1, 2, 3] x1L)).2 = 0 := by kernel_rfl
theorem st_turned : (trackGet (turnB (trackPut (x1L ++ tagS [1, 2, 3] x1L)).1)).2 = 4 := by kernel_rfl
theorem st_facts : ∃ s0 : List Int, s0.length = 27 ∧ (∀ x ∈ s0, 0 ≤ x ∧ x < 256) ∧ encS [k5K] r1L = (s0, 0) ∧ decS [k5K] s0 = (r1L, 0) ∧ decS [k5K] (turnB s0) = (r1L, 0) ∧ decS [k6K] s0 = (zeroC, 11) ∧ decS [] s0 = (zeroC, 10) ∧ encS [] r1L = ([], 10) ∧ decS [k5K] [] = (zeroC, 14) := by
  have hx : layR (tkL r1L) r1L = (x1L, 0) := Prod.ext rfl x1_err
  have he : encS [k5K] r1L = ((trackPut (x1L ++ tagS [1, 2, 3] x1L)).1, 0) := by
    rw [encS_mk st_ring5 hx st_find5]
    exact Prod.ext rfl st_err
  obtain ⟨d1, d2, d3, d4⟩ := st_back (l := r1L) rfl he
  have hg : trackGet (trackPut (x1L ++ tagS [1, 2, 3] x1L)).1 = (x1L ++ tagS [1, 2, 3] x1L, 0) := track_back (dig_nonneg (layR_byteL (l := r1L) rfl hx)) (Prod.ext rfl st_err)
  have hgl := lay_getL (l := r1L) rfl hx
  refine ⟨_, st_len, d3, he, d1, d2 (by rw [st_turned]; decide), ?_, ?_, ?_, by kernel_rfl⟩
  · rw [decS_mk st_ring6 (swipe_ok hg) (tagS_len _ _)]
    unfold decT
    rw [hgl, if_neg (by simp)]
    simp only
    rw [show r1L.getD 11 0 = 5 from rfl, st_find6]
    simp only
    rw [show k6K.sec = [1, 2, 4] from rfl, st_tags]
    rfl
  · rw [decS_mk (ks := []) (by decide) (swipe_ok hg) (tagS_len _ _)]
    unfold decT
    rw [hgl, if_neg (by simp)]
    rfl
  · unfold encS
    rw [show ringB [] = true by decide, if_neg (by decide), hx, if_neg (by simp)]
    rfl
end Go.Proofs.Ytachkhjbckapoaa

/- Layer 24, memory: a row of right entries, sorted by the library, reads as the list by rising serials. No condition. -/
import Derived.Test.YtpmfmkkifkpdcaaLedRow
namespace Go.Proofs.Ytpmfmkkifkpdcaa
open Go.RowKit Go.Maps
set_option linter.unusedVariables false
set_option maxRecDepth 100000
set_option linter.unusedSimpArgs false

def rowsOf (C : List En) : List Value := C.flatMap En.row
theorem rowsOf_len (C : List En) : (rowsOf C).length = C.length * 14 := by
  induction C with
  | nil => rfl
  | cons x t ih => simp only [rowsOf, List.flatMap_cons, List.length_append, List.length_cons, En.row_len] at ih ⊢; omega
theorem rowsOf_append (C D : List En) : rowsOf (C ++ D) = rowsOf C ++ rowsOf D := by simp [rowsOf]
theorem rowsOf_at : ∀ (C : List En) (j : Nat) (h : j < C.length) (i : Nat), i < 14 → (rowsOf C)[j * 14 + i]? = C[j].row[i]?
  | x :: C, 0, h, i, hi => by
    show (x.row ++ rowsOf C)[0 * 14 + i]? = _
    rw [List.getElem?_append_left (by rw [En.row_len]; omega)]
    simp
  | x :: C, j + 1, h, i, hi => by
    show (x.row ++ rowsOf C)[(j + 1) * 14 + i]? = _
    rw [List.getElem?_append_right (by rw [En.row_len]; omega), En.row_len, show (j + 1) * 14 + i - 14 = j * 14 + i by omega]
    exact rowsOf_at C j (by simpa using h) i hi
theorem rowsOf_one (C : List En) : ∀ u ∈ rowsOf C, u.oneCell' = true := by
  intro u hu
  obtain ⟨e, _, he⟩ := List.mem_flatMap.1 hu
  exact row_one e u he
theorem add_new (g i : Nat) : (⟨g, 0, none⟩ : Addr).add i = ⟨g, i, none⟩ := by
  unfold Addr.add
  by_cases h : i = 0 <;> simp [h]

theorem ok_get {d : Array OkEn} {C : List En} (hd : d.toList.map (·.1) = C) {j : Nat} (hj : j < C.length) : d[j]!.1 = C[j] := by
  subst hd
  have hj' : j < d.size := by simpa using hj
  rw [getElem!_pos d j hj']
  simp
theorem holdsK_of_own {w : World} {base g cap : Nat} {C : List En} (h : w.ownsRow base 37 14 (.slice (some ⟨g, 0, none⟩) C.length cap) C.length (rowsOf C)) (d : Array OkEn) (hd : d.toList.map (·.1) = C) : Go.Sort.HoldsK okRow 14 w g 0 d := by
  have hs : d.size = C.length := by rw [← hd]; simp
  intro t ht
  rw [Go.Sort.size_flatK, hs] at ht
  have hq : t / 14 < C.length := by omega
  have hr : t % 14 < 14 := Nat.mod_lt _ (by decide)
  rw [Go.Sort.get_flatK _ _ _ _ (by rw [hs]; exact ht)]
  have hrow : (rowsOf C)[t]? = some (C[t / 14].row[t % 14]!) := by
    have e := rowsOf_at C (t / 14) hq (t % 14) hr
    rw [show t / 14 * 14 + t % 14 = t by omega] at e
    rw [e, List.getElem?_eq_getElem (by rw [En.row_len]; exact hr), getElem!_pos _ _ (by rw [En.row_len]; exact hr)]
  refine ⟨?_, ?_⟩
  · have hc := h.cells rfl t _ hrow
    rw [add_new] at hc
    rw [Nat.zero_add, hc]
    show _ = some ((okRow d[t / 14]!)[t % 14]!)
    unfold okRow
    rw [ok_get hd hq]
  · rcases h.2 with ⟨h0, _⟩ | ⟨g', cap', cur, hv, _, hh, _⟩
    · cases h0
    · injection hv with hv
      injection hv with hv
      injection hv with hv
      subst hv
      simp [World.frozen?, hh]
theorem rdE_of_holdsK {w : World} {g : Nat} {S : List En} (hg : g < w.heap.size) (d : Array OkEn) (hd : d.toList.map (·.1) = S) (h : Go.Sort.HoldsK okRow 14 w g 0 d) : RdE w (some ⟨g, 0, none⟩) S := by
  have hs : d.size = S.length := by rw [← hd]; simp
  refine .inr ⟨_, rfl, hg, fun j hj => ?_⟩
  have K : ∀ c v, S[j].row[c]? = some v → w.cell? ⟨g, j * 14 + c, none⟩ = some v := by
    intro c v hv
    have hc : c < 14 := by
      have := (List.getElem?_eq_some_iff.1 hv).1
      rwa [En.row_len] at this
    have h1 := (Go.Sort.HoldsK.cell h (i := j) (c := c) (by omega) hc).1
    rw [Nat.zero_add] at h1
    rw [h1]
    show some ((okRow d[j]!)[c]!) = _
    unfold okRow
    rw [ok_get hd hj, ← hv, List.getElem?_eq_getElem (by rw [En.row_len]; exact hc), getElem!_pos _ _ (by rw [En.row_len]; exact hc)]
  rw [add_new]
  exact ⟨K 0 _ rfl, fun k v hv => K (k + 1) v hv⟩
theorem holdsK_sorted {w : World} {g n : Nat} {os : Array Obj} {d d' : Array OkEn} (hg : g < w.heap.size) (h : Go.Sort.HoldsK okRow 14 w g 0 d) (hs : d'.size = d.size) : Go.Sort.HoldsK okRow 14 (Go.Proofs.sortWorldK okRow 14 w g 0 n d' os) g 0 d' :=
  Go.Sort.holdsK_grow okRow 14 _ _ _ _ _ (by simpa [Go.Sort.putRowK, Go.Sort.putRow, Go.Sort.mapBlock, Go.Sort.ahead] using hg) (Go.Sort.holdsK_putRowK okRow 14 _ _ _ d d' (Go.Sort.holdsK_ahead okRow 14 _ _ _ _ _ h) hs)
theorem grownBy_sortedK {w : World} {g n : Nat} {os : Array Obj} (d : Array OkEn) : w.grownBy (Go.Proofs.sortWorldK okRow 14 w g 0 n d os) (some g) := by
  refine ⟨rfl, rfl, rfl, by simp [Go.Proofs.sortWorldK, Go.Sort.grow, Go.Sort.putRowK, Go.Sort.putRow, Go.Sort.mapBlock, Go.Sort.ahead], fun k hk hne => ?_⟩
  have hgk : g ≠ k := fun e => hne (by rw [e])
  unfold Go.Proofs.sortWorldK
  rw [Go.Sort.heap_grow_old _ _ (by simpa [Go.Sort.putRowK, Go.Sort.putRow, Go.Sort.mapBlock, Go.Sort.ahead] using hk)]
  simp [Go.Sort.putRowK, Go.Sort.putRow, Go.Sort.mapBlock, Go.Sort.ahead, Array.getElem?_modify, hgk]
theorem sort_list {d d' : Array OkEn} (hp : Go.Sort.PermIn 0 d.size d d') (hs : Go.Sort.SortedIn (Go.Proofs.ltOf okCmp) 0 d.size d') (hn : (d.toList.map (·.1.a0)).Nodup) :
    d'.size = d.size ∧ Srt (d'.toList.map (·.1)) ∧ (d'.toList.map (·.1)).Perm (d.toList.map (·.1)) := by
  obtain ⟨h1, _, h2⟩ := hp
  have h3 : d'.toList.Perm d.toList := by
    have e1 : d'.extract 0 d.size = d' := by rw [← h1]; simp
    have e2 : d.extract 0 d.size = d := by simp
    rwa [e1, e2] at h2
  have hn' : (d'.toList.map (·.1.a0)).Nodup := ((h3.map (·.1.a0)).nodup_iff).2 hn
  refine ⟨h1, ?_, h3.map _⟩
  rw [srt_map, List.map_map]
  rw [List.pairwise_iff_getElem]
  intro i j hi hj hij
  have hj' : j < d'.size := by simpa using hj
  have hle := hs i j (Nat.zero_le _) hij (by omega)
  rw [okLt, decide_eq_false_iff_not, getElem!_pos d' i (by omega), getElem!_pos d' j hj'] at hle
  have hne : (d'.toList.map (·.1.a0))[i]'(by simpa using hi) ≠ (d'.toList.map (·.1.a0))[j]'(by simpa using hj) := by
    intro e
    have := List.getElem_inj hn' |>.1 e
    omega
  simp only [List.getElem_map, Array.getElem_toList, Function.comp] at hne ⊢
  omega
/-- What has been collected of a map, while the keys that are left are still to come. -/
def Coll (S : List En) (left : Lit → Bool) (C : List En) : Prop :=
  (C.map (·.a0)).Nodup ∧ (∀ e ∈ C, e ∈ S) ∧ (∀ e ∈ S, e ∈ C ∨ left (kl e.a0) = true) ∧ ∀ e ∈ C, left (kl e.a0) = false
theorem coll_start {D : DataW Value} {S : List En} (hD : DRep D S) (hS : Srt S) (ho : ∀ e ∈ S, e.ok = true) : Coll S (Maps.has D) [] :=
  ⟨List.nodup_nil, fun e he => by (cases he), fun e he => .inr (by rw [hD.2.2.1 _ (En.wf (ho e he)), fnd_mem hS he]; rfl), fun e he => by (cases he)⟩
theorem coll_step {D : DataW Value} {S C : List En} {left : Lit → Bool} {n : Int} {c : En} (h : Coll S left C) (hD : DRep D S) (hS : Srt S) (ho : ∀ e ∈ S, e.ok = true) (hw : (Lit.int .i64 n).wf = true) (hl : left (kl n) = true)
    (hat : ∀ zd, D.atKey (kl n) zd = .held (.agg c.row.toArray)) : c ∈ S ∧ c.a0 = n ∧ Coll S (fun z => left z && !z.sameKey (kl n)) (C ++ [c]) := by
  have hh := has_true_of_atKey hat
  rw [hD.2.2.1 n hw] at hh
  obtain ⟨x, hx⟩ := Option.isSome_iff_exists.1 hh
  obtain ⟨hxS, rfl⟩ := fnd_some hx
  have hxc : x = c := held_en ((hD.2.2.2 x hxS .nil).symm.trans (hat .nil))
  subst hxc
  obtain ⟨h1, h2, h3, h4⟩ := h
  have hxC : ∀ y ∈ C, y.a0 ≠ x.a0 := fun y hy e => by
    have := h4 y hy
    rw [e, hl] at this
    cases this
  have other : ∀ y ∈ S, y.a0 ≠ x.a0 → (kl y.a0).sameKey (kl x.a0) = false := fun y hy hne => sameKey_ne fun q => hne (kl_inj (En.wf (ho y hy)) hw q)
  refine ⟨hxS, rfl, ?_, ?_, ?_, ?_⟩
  · rw [List.map_append]
    refine List.nodup_append.2 ⟨h1, by simp, ?_⟩
    intro a ha b hb e
    obtain ⟨y, hy, rfl⟩ := List.mem_map.1 ha
    simp only [List.map_cons, List.map_nil, List.mem_singleton] at hb
    exact hxC y hy (e.trans hb)
  · intro e he
    rcases List.mem_append.1 he with he | he
    · exact h2 e he
    · rw [List.mem_singleton.1 he]; exact hxS
  · intro e he
    rcases h3 e he with hc | hc
    · exact .inl (List.mem_append.2 (.inl hc))
    · by_cases hex : e.a0 = x.a0
      · have h5 := fnd_mem hS he
        rw [hex, hx] at h5
        exact .inl (List.mem_append.2 (.inr (List.mem_singleton.2 (Option.some.inj h5).symm)))
      · exact .inr (by show (left (kl e.a0) && !(kl e.a0).sameKey (kl x.a0)) = true; rw [hc, other e he hex]; rfl)
  · intro e he
    rcases List.mem_append.1 he with he | he
    · show (left (kl e.a0) && !(kl e.a0).sameKey (kl x.a0)) = false
      rw [h4 e he]; rfl
    · rw [List.mem_singleton.1 he]
      show (left (kl x.a0) && !(kl x.a0).sameKey (kl x.a0)) = false
      rw [WideAt.sameKey_self (kl_key _)]; simp
theorem coll_end {S C T : List En} {left : Lit → Bool} (h : Coll S left C) (hS : Srt S) (hl : ∀ k, left k = false) (hT : Srt T) (hp : T.Perm C) : T = S := by
  refine srt_unique hT hS fun x => ?_
  rw [hp.mem_iff]
  exact ⟨h.2.1 x, fun hx => (h.2.2.1 x hx).resolve_right (by rw [hl]; simp)⟩
end Go.Proofs.Ytpmfmkkifkpdcaa

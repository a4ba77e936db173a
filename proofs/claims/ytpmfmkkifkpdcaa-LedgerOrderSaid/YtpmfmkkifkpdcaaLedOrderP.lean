/- Plain words on ledgers that are filled in another order. No condition. -/
import Derived.Test.YtpmfmkkifkpdcaaLedAllLaw
namespace Go.Proofs.Ytpmfmkkifkpdcaa
open Go.RowKit Go.Maps
set_option linter.unusedVariables false
set_option maxRecDepth 100000
set_option linter.unusedSimpArgs false

theorem folds_mem : ∀ (l S : List En), ((S ++ l).map (·.a0)).Nodup → S.length + l.length ≤ 64 → ∀ x, x ∈ l.foldl (fun S e => (addR 64 S e).1) S ↔ x ∈ S ∨ (x ∈ l ∧ x.ok = true)
  | [], S, _, _, x => by simp
  | e :: r, S, hn, hl, x => by
    rw [List.foldl_cons]
    have hne : ∀ y ∈ S, y.a0 ≠ e.a0 := by
      intro y hy h
      rw [List.map_append, List.map_cons] at hn
      exact (List.nodup_append.1 hn).2.2 y.a0 (List.mem_map.2 ⟨y, hy, rfl⟩) e.a0 (by simp) h
    have hf : (fnd S e.a0).isSome = false := by
      cases hf : fnd S e.a0 with
      | none => rfl
      | some y => exact absurd (fnd_some hf).2 (hne y (fnd_some hf).1)
    simp only [List.length_cons] at hl
    by_cases ho : e.ok = true
    · have hq : (addR 64 S e).1 = ins e S := by
        unfold addR
        rw [if_neg (by rw [ho]; decide), if_neg (by rw [hf]; decide), if_neg (by omega)]
      rw [hq, folds_mem r (ins e S) ?_ (by rw [ins_len]; omega) x]
      · rw [ins_mem]
        constructor
        · rintro ((rfl | h) | h)
          · exact .inr ⟨by simp, ho⟩
          · exact .inl h
          · exact .inr ⟨by simp [h.1], h.2⟩
        · rintro (h | ⟨h, h2⟩)
          · exact .inl (.inr h)
          · rcases List.mem_cons.1 h with rfl | h
            · exact .inl (.inl rfl)
            · exact .inr ⟨h, h2⟩
      · have hp : ((ins e S ++ r).map (·.a0)).Perm ((S ++ e :: r).map (·.a0)) := by
          refine List.Perm.map _ ?_
          exact ((ins_perm e S).append_right r).trans List.perm_middle.symm
        exact hp.nodup_iff.2 hn
    · have hq : (addR 64 S e).1 = S := by
        unfold addR
        rw [if_pos (by simpa using ho)]
      rw [hq, folds_mem r S ?_ (by omega) x]
      · constructor
        · rintro (h | h)
          · exact .inl h
          · exact .inr ⟨by simp [h.1], h.2⟩
        · rintro (h | ⟨h, h2⟩)
          · exact .inl h
          · rcases List.mem_cons.1 h with rfl | h
            · exact absurd h2 ho
            · exact .inr ⟨h, h2⟩
      · rw [List.map_append, List.map_cons] at hn
        rw [List.map_append]
        exact hn.sublist (List.Sublist.append_left (List.sublist_cons_self _ _) _)
theorem adds_mem {l : List En} (hn : (l.map (·.a0)).Nodup) (hl : l.length ≤ 64) (x : En) : x ∈ adds 64 l ↔ x ∈ l ∧ x.ok = true := by
  unfold adds
  rw [folds_mem l [] (by simpa using hn) (by simpa using hl) x]
  simp
theorem adds_reverse {l : List En} (hn : (l.map (·.a0)).Nodup) (hl : l.length ≤ 64) : adds 64 l.reverse = adds 64 l := by
  refine srt_unique (adds_ok (by decide) _).1 (adds_ok (by decide) _).1 fun x => ?_
  rw [adds_mem hn hl, adds_mem (by rw [List.map_reverse]; exact (List.reverse_perm _).nodup_iff.2 hn) (by simpa using hl)]
  simp
theorem adds_snoc (room : Int) (l : List En) (e : En) : adds room (l ++ [e]) = (addR room (adds room l) e).1 := by
  unfold adds
  rw [List.foldl_append]; rfl
theorem drop_rev (l : List En) (p : Nat) (h : p < l.length) : (l.drop p).reverse = (l.drop (p + 1)).reverse ++ [l[p]] := by
  rw [List.drop_eq_getElem_cons h, List.reverse_cons]
theorem nodup_of_pairs (l : List En) (h : ∀ p q, (hp : p < l.length) → (hq : q < l.length) → p < q → l[p].a0 ≠ l[q].a0) : (l.map (·.a0)).Nodup := by
  unfold List.Nodup
  rw [List.pairwise_iff_getElem]
  intro i j hi hj hij
  simp only [List.getElem_map]
  exact h i j (by simpa using hi) (by simpa using hj) hij
end Go.Proofs.Ytpmfmkkifkpdcaa

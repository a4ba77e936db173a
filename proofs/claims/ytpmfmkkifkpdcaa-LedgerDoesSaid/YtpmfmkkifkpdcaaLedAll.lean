/- Layer 24: all entries of a ledger, by rising serials, whatever order the map gives. No condition. -/
import Derived.Test.YtpmfmkkifkpdcaaLedSorted
namespace Go.Proofs.Ytpmfmkkifkpdcaa
open Go.RowKit Go.Maps
set_option linter.unusedVariables false
set_option maxRecDepth 100000
set_option linter.unusedSimpArgs false

theorem keyOf_inv {v : Value} {l : Lit} (h : keyOf Try.prog 74 v = some l) : ∃ n : Int, v = .agg #[.int .i64 n] ∧ (Lit.int .i64 n).wf = true ∧ l = kl n := by
  obtain ⟨m, hm⟩ : ∃ m, Try.prog.types.size + 1 = m + 2 := ⟨Try.prog.types.size - 1, by have : 0 < Try.prog.types.size := of_decide_eq_true (by kernel_rfl); omega⟩
  have hk : Try.prog.keyType 74 = true := by kernel_rfl
  have hc : Try.prog.cellsOf 74 = 1 := by kernel_rfl
  have hi : Try.prog.cellsOf 3 = 1 := by kernel_rfl
  have hform : v.formed Try.prog 74 = true := by
    unfold keyOf at h
    rw [Try.underlying74] at h
    simp only at h
    split at h
    · rename_i hh
      simp only [Bool.and_eq_true] at hh
      exact hh.2
    · cases h
  cases v with
  | agg cs =>
    obtain ⟨cl⟩ := cs
    simp only [Value.formed, Try.underlying74, hc] at hform
    have hl : cl.length = 1 := by simpa using hform
    match cl, hl with
    | [x], _ =>
      unfold keyOf at h
      rw [hm] at h
      simp only [Try.underlying74, hk, Value.formed, hc, Program.keyLits, Value.cells] at h
      cases x with
      | int q n =>
        by_cases hq : q = .i64 ∧ (Lit.int .i64 n).wf = true
        · obtain ⟨rfl, hw⟩ := hq
          refine ⟨n, rfl, hw, ?_⟩
          have h2 := keyOf_kl hw
          have h3 : keyOf Try.prog 74 (.agg #[.int .i64 n]) = some l := by
            unfold keyOf
            rw [hm]
            simp only [Try.underlying74, hk, Value.formed, hc, Program.keyLits, Value.cells]
            exact h
          rw [h2] at h3
          exact (Option.some.inj h3).symm
        · exfalso
          simp [Try.underlying3, hi, hq] at h
      | _ => exfalso; simp [Try.underlying3, hi] at h
  | _ => simp [Value.formed, Try.underlying74] at hform

theorem infoEn3 : (Try.prog.info? 37).map (fun i => (i.zero, i.size, i.bytes)) = some (some (.agg zE.row.toArray), 14, 112) := by kernel_rfl
theorem ecells_new (w : World) (l : List Value) (t : TypeId) : ∀ j u, l[j]? = some u → (w.alloc (.cells l.toArray t)).cell? ((⟨w.heap.size, 0, none⟩ : Addr).add j) = some u := by
  intro j u hj
  rw [add_new, cell_of_row _ w.heap.size j _ t (0, 0) (heap_alloc_new w _)]
  simpa using hj
/-- What All hands back. -/
def AllRet (S : List En) (w : World) (r : Ending) (w' : World) : Prop :=
  ∃ A c, r = .returned (.slice A S.length c) ∧ S.length ≤ c ∧ c ≤ 9223372036854775807 ∧ RdE w' A S ∧ Below w.heap.size w w' ∧ ∀ a, A = some a → w.heap.size ≤ a.block
def mkK (n : Int) : Value := .agg #[.int .i64 n]
def mkE (e : En) : Value := .agg #[.int .i64 e.a0, .int .i64 e.a1, .int .i64 e.a2, .int .i64 e.a3, .int .i64 e.a4, .int .i64 e.a5, .int .i64 e.a6, .int .i64 e.a7, .int .i64 e.a8, .int .i64 e.a9, .int .i64 e.a10, .int .i64 e.l, .int .i64 e.i, .bool e.bk]
theorem ok_list : ∀ (C : List En), (∀ e ∈ C, e.ok = true) → ∃ l : List OkEn, l.map (·.1) = C
  | [], _ => ⟨[], rfl⟩
  | e :: C, h => by
    obtain ⟨l, hl⟩ := ok_list C fun x hx => h x (by simp [hx])
    subst hl
    exact ⟨(⟨e, h e (by simp)⟩ : OkEn) :: l, rfl⟩
theorem allSort_any (wr : World) (base : Nat) (v : Value) (C S : List En) (left : Lit → Bool) (hrow : wr.ownsRow base 37 14 v C.length (rowsOf C)) (hC : Coll S left C) (hl : ∀ k, left k = false) (hS : Srt S) (ho : ∀ e ∈ S, e.ok = true) (h64 : C.length ≤ 64) (hb : base ≤ wr.heap.size) :
    Calls Try.prog 45 #[v, .func (.func 46) #[] #[]] wr fun r w' => r = .returned (.tuple #[]) ∧ ∃ A c, v = .slice A S.length c ∧ S.length ≤ c ∧ c ≤ 9223372036854775807 ∧ RdE w' A S ∧ Below base wr w' ∧ ∀ a, A = some a → base ≤ a.block := by
  by_cases hn : C = []
  · subst hn
    have hS0 : ([] : List En) = S := coll_end hC hS hl List.Pairwise.nil (List.Perm.refl _)
    subst hS0
    rcases hrow.2 with ⟨rfl, _⟩ | ⟨g, cap, cur, rfl, hg, _, h1, h2, _⟩
    · exact (sortEn_nil none 0 _ wr).mono fun e w' ⟨he, hw⟩ => ⟨he, none, 0, rfl, Nat.le_refl _, by omega, .inl rfl, by subst hw; exact Below.refl _ _, fun a ha => by cases ha⟩
    · unfold maxLen at h2
      exact (sortEn_nil (some ⟨g, 0, none⟩) cap _ wr).mono fun e w' ⟨he, hw⟩ => ⟨he, some ⟨g, 0, none⟩, cap, rfl, h1, h2, .inl rfl, by subst hw; exact Below.refl _ _, fun a ha => by cases ha; exact hg⟩
  · have hp : 0 < C.length := List.length_pos_iff.mpr hn
    rcases hrow.2 with ⟨_, h0⟩ | ⟨g, cap, cur, rfl, hg, hh, h1, h2, _⟩
    · omega
    · unfold maxLen at h2
      obtain ⟨dl, hdl⟩ := ok_list C (fun e he => ho e (hC.2.1 e he))
      obtain ⟨d, hd⟩ : ∃ d : Array OkEn, d.toList.map (·.1) = C := ⟨dl.toArray, hdl⟩
      have hs : d.size = C.length := by rw [← hd]; simp
      have hlt : g < wr.heap.size := (Array.getElem?_eq_some_iff.1 hh).1
      have hH := holdsK_of_own hrow d hd
      have h := sortEn_any g cap d wr hH hlt (by omega)
      rw [hs] at h
      refine h.mono fun e w' ⟨he, d', n, os, hp1, hp2, hw⟩ => ?_
      rw [← hs] at hp1 hp2
      obtain ⟨q1, q2, q3⟩ := sort_list hp1 hp2 (by have := hC.1; rw [← hd, List.map_map] at this; exact this)
      rw [hd] at q3
      have hT := coll_end hC hS hl q2 q3
      have hSl : S.length = C.length := by rw [← hT]; exact q3.length_eq
      subst hw
      refine ⟨he, some ⟨g, 0, none⟩, cap, by rw [hSl], by omega, h2, rdE_of_holdsK ?_ d' hT (holdsK_sorted hlt hH q1), below_of_grown (grownBy_sortedK d') hb hg, fun a ha => by cases ha; exact hg⟩
      exact Nat.lt_of_lt_of_le hlt (grownBy_sortedK d').size
set_option maxHeartbeats 4000000 in
theorem ledAll_any (g b : Nat) (room : Int) (S : List En) (w : World) (h : Led w g b room S) :
    Calls Try.prog 25 #[.pointer (some ⟨g, 0, none⟩)] w (AllRet S w) := by
  obtain ⟨hg, hgb, ⟨D, hown, hD⟩, hok, hr1, hr2⟩ := h
  have hlen : S.length ≤ 64 := by have := hok.2.2; omega
  have c1 := cell_of_row _ g 1 _ _ _ hg
  have hbl : b < w.heap.size := hown.lt
  obtain ⟨i0, hi, hz0, hz1, hz2⟩ := info_parts infoEn3
  have HD := Lib.hid (And.intro hD hok)
  clear hg hD hok
  go_enter Try.func25, Try.ntmps25
  go_wp2_with (at_range; refine wpList_range_own _ rfl _ 68 rfl 74 37 lawKey Try.underlying68 entR _ S.length D rfl hown ?_; intro w0 hrg0 hg0 hs0)
  go_frame
  have HC0 := Lib.hid (coll_start HD.out.1 HD.out.2.1 HD.out.2.2.1)
  go_loopw [3] (fun v wr => ∃ (left : Lit → Bool) (cnt : Nat) (C : List En), wr.ranges Try.prog 74 entR b w.heap.size S.length D left cnt ∧ wr.ownsRow (w.heap.size + 1) 37 14 v C.length (rowsOf C) ∧ C.length + cnt ≤ S.length ∧ w.heap.size + 1 ≤ wr.heap.size ∧ Hid (Coll S left C) ∧ Hid (Below w.heap.size w wr)) (fun _ wr => wr.rangeLeft b w.heap.size)
  case atStart => exact ⟨_, _, [], hrg0, World.ownsRow_nil _ _ _ _, by simp [HD.out.1.2.1], by omega, HC0, Lib.hid (below_of_grown (hg0.but (some w.heap.size)) (Nat.le_refl _) (Nat.le_refl _))⟩
  case round =>
    obtain ⟨left, cnt, C, hrg, hrow, hCl, hsz, hC, hB⟩ := hrel
    go_wp2_with (at_next; refine wpList_next_ranges _ rfl _ rfl 74 lawKey entR mkK mkE (fun key kl1 hk => by obtain ⟨n, rfl, _⟩ := keyOf_inv hk; exact ⟨n, rfl⟩) (fun v y hv => by obtain ⟨e, rfl, _⟩ := entR_inv hv; exact ⟨e, rfl⟩) b w.heap.size S.length D left cnt rfl hrg ?_ ?_)
    · intro _ hl0
      have HS := fun W hr => allSort_any W (w.heap.size + 1) u3 C S left hr hC.out hl0 HD.out.2.1 HD.out.2.2.1 (by omega)
      go_wp2_with (go_at_call 45; (with_reducible refine (HS _ hrow hsz).mono ?_); rintro r w3 ⟨rfl, A, c, rfl, q1, q2, q3, q4, q5⟩)
      go_ret
      exact ⟨A, c, rfl, q1, q2, q3, hB.out.trans (q4.mono (Nat.le_succ _)), fun a ha => by have := q5 a ha; omega⟩
    · intro n c kl1 y yp w1 cnt1 hkey hlk hR hat hrg1 hlt hg1 hs1 hen
      obtain ⟨n', hn', hwn, rfl⟩ := keyOf_inv hkey
      have hnn : n = n' := by simpa [mkK] using hn'
      subst hnn
      obtain ⟨c', hc', hy⟩ := entR_inv hR
      simp only [Prod.mk.injEq] at hy
      obtain ⟨rfl, rfl⟩ := hy
      obtain ⟨k1, k2, k3⟩ := coll_step hC.out HD.out.1 HD.out.2.1 HD.out.2.2.1 hwn hlk (c := c) hat
      have hne : u3.ownBlock = none ∨ u3.ownBlock ≠ some w.heap.size := by
        rcases hvb : u3.ownBlock with _ | q
        · exact .inl rfl
        · refine .inr fun e => ?_
          have := (hrow.lt q hvb).1
          cases e
          omega
      have hrow1 := hrow.kept hg1 hne
      have HK := Lib.hid k3
      have hB1 := hB.out.grown hg1 hB.out.size (fun j hj => by cases hj; exact Nat.le_refl _)
      have HB1 := Lib.hid hB1
      have HA := Lib.hid hat
      dsimp only [mkK, mkE] at hen ⊢
      have HS1 := Lib.hid hs1
      clear hkey hn' hR hc' hat k1 k2 k3 hB1 hlk hs1
      go_wp2_with (at_builtin; go_loud (refine wpList_append_own_at _ rfl _ _ 22 rfl (w.heap.size + 1) 37 i0 (.agg zE.row.toArray) 14 112 Try.underlying22 hi hz0 hz1 hz2 rfl (by decide) _ C.length (rowsOf C) rfl ((hrow1.alloc _).alloc _) ⟨w1.heap.size + 1, 0, none⟩ 1 1 c.row rfl rfl ?_ (row_one c) ?_ ?_ ?_ ?_); (focus (go_loud (have h := ecells_new (w1.alloc (.cells #[.int .i64 c.a0, .int .i64 c.a1, .int .i64 c.a2, .int .i64 c.a3, .int .i64 c.a4, .int .i64 c.a5, .int .i64 c.a6, .int .i64 c.a7, .int .i64 c.a8, .int .i64 c.a9, .int .i64 c.a10, .int .i64 c.l, .int .i64 c.i, .bool c.bk] 37)) c.row 37; rw [World.size_alloc] at h; exact h))); (focus (exact maxLen_ge (by omega))); (focus omega); (focus (have := HS1.out; simp; omega)); intro v5 w5 ho5 hg5 _ ha5)
      have hgw : w1.grownBy w5 u3.ownBlock := ((World.grownBy_alloc w1 _ _).andThen (World.grownBy_alloc _ _ u3.ownBlock) (fun j hj => .inr hj)).andThen hg5 (fun j hj => .inr hj)
      have hub : ∀ k, u3.ownBlock = some k → w.heap.size + 1 ≤ k := fun k hk => (hrow1.lt k hk).1
      have hrg5 := hrg1.kept hgw (fun e => by have := hub b e.symm; omega) (fun e => by have := hub _ e.symm; omega)
      have hs5 := hgw.size
      exact ⟨⟨_, _, C ++ [c], hrg5, by rw [rowsOf_append, List.length_append]; simpa [rowsOf] using ho5, by rw [List.length_append]; simp; omega, by have := HS1.out; omega, HK, Lib.hid (HB1.out.grown hgw HB1.out.size (fun j hj => by have := hub j hj; omega))⟩, by rw [hrg5.left_eq, hrg.left_eq]; omega⟩
end Go.Proofs.Ytpmfmkkifkpdcaa

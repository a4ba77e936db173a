/- Layer 17: the next field, by the program's reader. No condition. -/
import Derived.Test.YtachkhjbckapoaaT40
import Derived.Test.YtachkhjbckapoaaT13
namespace Go.Proofs.Ytachkhjbckapoaa
open Go.RowKit
set_option linter.unusedVariables false
set_option maxRecDepth 100000
set_option linter.unusedSimpArgs false

/-- A step that went well: the field, and the reader behind it. -/
def NextOk (g : Nat) (a : Int) (m : Nat) (t : List Int) (w0 w : World) (e : Ending) (w' : World) : Prop :=
  ∃ (A1 A2 : Option Addr) (c2 : Nat), e = .returned (.tuple #[.agg #[.int .i64 a, .slice A1 m m], .int .i64 0]) ∧ w'.heap[g]? = some (.cells #[.slice A2 (t.length - m) c2, .int .i64 a] 141 (0, 0)) ∧
    RdI w0 .u8 A1 (t.take m) ∧ RdI w0 .u8 A2 (t.drop m) ∧ t.length - m ≤ c2 ∧ c2 ≤ 9223372036854775807 ∧ Below w0.heap.size w0 w' ∧ (w.heap.size ≤ w'.heap.size ∧ ∀ b, b < w.heap.size → b ≠ g → w'.heap[b]? = w.heap[b]?)

theorem nx_keep (W : World) (N : Nat) (F0 : Obj) (a : Int) (v : Value) (h : W.heap.size = N) : ((W.alloc F0).alloc (.cells #[.int .i64 a, v] 67)).drew.drew.cell? ⟨N + 1, 0, none⟩ = some (.int .i64 a) := by
  subst h
  have h := heap_alloc_new (W.alloc F0) (.cells #[.int .i64 a, v] 67)
  rw [World.size_alloc] at h
  exact cell_of_row _ _ 0 _ _ _ h
theorem RdI.sub {w : World} {k : IntKind} {ad : Addr} {l : List Int} (h : RdI w k (some ad) l) (i n : Nat) : RdI w k (some (ad.add i)) ((l.drop i).take n) := by
  rcases h with rfl | ⟨ad', e, hlt, hc⟩
  · left; simp
  · obtain rfl := Option.some.inj e
    refine .inr ⟨_, rfl, by rw [add_block]; exact hlt, fun j hj => ?_⟩
    rw [List.length_take, List.length_drop] at hj
    rw [add_add, hc (i + j) (by omega)]
    congr 2
    rw [List.getD_eq_getElem?_getD, List.getD_eq_getElem?_getD, List.getElem?_take, if_pos (by omega), List.getElem?_drop]
theorem nx_heap (w : World) (g : Nat) (u v : Value) (X Y : Obj) : (((((w.setCell ⟨g, 0, none⟩ u).setCell ⟨g, 1, none⟩ v).alloc X).alloc Y).drew.drew).heap[w.heap.size]? = some X := by
  have h := heap_alloc2_old ((w.setCell ⟨g, 0, none⟩ u).setCell ⟨g, 1, none⟩ v) X Y
  have e : ((w.setCell ⟨g, 0, none⟩ u).setCell ⟨g, 1, none⟩ v).heap.size = w.heap.size := by simp
  rw [e] at h
  exact h
theorem add_two (ad : Addr) : ad.add 2 = ⟨ad.block, ad.off + 2, none⟩ := by unfold Addr.add; rw [if_neg (by decide)]
theorem nx_fin {g m n L : Nat} {a last : Int} {t : List Int} {w0 w : World} {A A1 A2 : Option Addr} {c c2 : Nat} (hg : w.heap[g]? = some (.cells #[.slice A n c, .int .i64 last] 141 (0, 0))) (hb0 : Below w0.heap.size w0 w) (hg0 : w0.heap.size ≤ g)
    (hr1 : RdI w0 .u8 A1 (t.take m)) (hr2 : RdI w0 .u8 A2 (t.drop m)) (hL : L = t.length - m) (hc2 : L ≤ c2) (hc9 : c2 ≤ 9223372036854775807) (X Y : Obj) :
    NextOk g a m t w0 w (.returned (.tuple #[.agg #[.int .i64 a, .slice A1 m m], .int .i64 0])) ((((w.setCell ⟨g, 0, none⟩ (.slice A2 L c2)).setCell ⟨g, 1, none⟩ (.int .i64 a)).alloc X).alloc Y).drew.drew := by
  subst hL
  refine ⟨A1, A2, c2, rfl, ?_, hr1, hr2, hc2, hc9, bD (bD (bA (bA ((hb0.setCell (p := ⟨g, 0, none⟩) hg0 _).setCell (p := ⟨g, 1, none⟩) hg0 _) _) _)), by show w.heap.size ≤ (((w.setCell ⟨g, 0, none⟩ (.slice A2 (t.length - m) c2)).setCell ⟨g, 1, none⟩ (.int .i64 a)).alloc X |>.alloc Y).heap.size; simp; omega, fun b hb hne => ?_⟩
  rotate_left
  · exact (Below.heap_alloc _ _ _ (by simp; omega)).trans ((Below.heap_alloc _ _ _ (by simp; omega)).trans ((Below.heap_setCell _ _ _ b hne).trans (Below.heap_setCell _ _ _ b hne)))
  have h1 := heap_setCell_same w g 0 _ _ (.slice A2 (t.length - m) c2) hg
  have h2 := heap_setCell_same _ g 1 _ _ (.int .i64 a) h1
  have hlt : g < ((w.setCell ⟨g, 0, none⟩ (.slice A2 (t.length - m) c2)).setCell ⟨g, 1, none⟩ (.int .i64 a)).heap.size := (Array.getElem?_eq_some_iff.1 h2).1
  exact (Below.heap_alloc _ _ _ (by simp; simp at hlt; omega)).trans ((Below.heap_alloc _ _ _ hlt).trans h2)
set_option maxHeartbeats 8000000 in
theorem next_ok (g : Nat) (A : Option Addr) (c : Nat) (a : Int) (m : Nat) (t : List Int) (last : Int) (w0 w : World) (hg : w.heap[g]? = some (.cells #[.slice A (a :: (m : Int) :: t).length c, .int .i64 last] 141 (0, 0))) (hb0 : Below w0.heap.size w0 w) (hg0 : w0.heap.size ≤ g) (hr : RdI w0 .u8 A (a :: (m : Int) :: t)) (ha : 0 ≤ a ∧ a < 256) (hb : m < 256) (hq : ¬ a ≤ last) (hlong : m ≤ t.length) (hc : (a :: (m : Int) :: t).length ≤ c) (hc9 : c ≤ 9223372036854775807) :
    Calls Try.prog 122 #[.pointer (some ⟨g, 0, none⟩)] w (NextOk g a m t w0 w) := by
  obtain ⟨n, hn⟩ : ∃ n, (a :: (m : Int) :: t).length = n := ⟨_, rfl⟩
  have hnt : n = t.length + 2 := by simp at hn; omega
  have hn2 : ¬ (n : Int) < 2 := by omega
  have hn0 : (0 : Int) < (n : Int) := by omega
  have hn1 : (1 : Int) < (n : Int) := by omega
  have hd : ¬ (n : Int) < 2 + (m : Int) := by omega
  have hI1 : (2 : Int) + (m : Int) ≤ (n : Int) := by omega
  have hI2 : (2 : Int) + (m : Int) ≤ (c : Int) := by omega
  have hI3 : (2 : Int) ≤ 2 + (m : Int) := by omega
  have hI4 : (n : Int) ≤ (c : Int) := by omega
  have hI5 : (0 : Int) ≤ 2 + (m : Int) := by omega
  obtain ⟨ad, rfl, hx0⟩ := (hr.below hb0).at_ (j := 0) (by simp)
  obtain ⟨ad', e', hx1⟩ := (hr.below hb0).at_ (j := 1) (by simp)
  obtain rfl := Option.some.inj e'
  rw [hn] at hg
  have c0 := cell_of_row w g 0 _ _ _ hg
  have c1 := cell_of_row w g 1 _ _ _ hg
  have f0 : w.frozen? ⟨g, 0, none⟩ = false := by simp [World.frozen?, hg]
  have f1 : w.frozen? ⟨g, 1, none⟩ = false := by simp [World.frozen?, hg]
  have hlt : g < w.heap.size := (Array.getElem?_eq_some_iff.1 hg).1
  have hx00 := hx0
  rw [add_zero] at hx00
  simp only [List.getD_cons_zero, List.getD_cons_succ] at hx0 hx00 hx1
  have hab : ad.block < w.heap.size := World.block_lt_of_cell? w _ hx00
  have hab1 : ¬ ad.block = w.heap.size := by omega
  have hab2 : ¬ w.heap.size = ad.block := by omega
  have hab3 : ¬ ad.block = w.heap.size + 1 := by omega
  have hx11 := hx1
  rw [show ad.add 1 = ⟨ad.block, ad.off + 1, none⟩ from by simp [Addr.add]] at hx11
  have hg1 : ¬ g = w.heap.size := by omega
  have hg2 : ¬ g = w.heap.size + 1 := by omega
  have HG := Lib.hid hg
  have HR := Lib.hid hr
  have HN := Lib.hid hnt
  clear hg hr hn hnt hc
  have hS1 : ((w.alloc (.cells #[.int .i64 0, .slice none 0 0] 67)).alloc (.cells #[.int .i64 a, .slice none 0 0] 67)).drew.cell? ⟨w.heap.size + 1, 0, none⟩ = some (.int .i64 a) := by
    have h := heap_alloc_new (w.alloc (.cells #[.int .i64 0, .slice none 0 0] 67)) (.cells #[.int .i64 a, .slice none 0 0] 67)
    rw [World.size_alloc] at h
    exact cell_of_row _ _ 0 _ _ _ h
  have hS2 : ((w.alloc (.cells #[.int .i64 0, .slice none 0 0] 67)).alloc (.cells #[.int .i64 a, .slice none 0 0] 67)).drew.cell? ⟨g, 1, none⟩ = some (.int .i64 last) :=
    keep_cell (bD (bA (bel1 w _) _)) c1
  have hS0 : ∀ v, ((w.alloc (.cells #[.int .i64 0, .slice none 0 0] 67)).alloc (.cells #[.int .i64 a, v] 67)).drew.drew.cell? ⟨w.heap.size + 1, 0, none⟩ = some (.int .i64 a) := by
    intro v
    have h := heap_alloc_new (w.alloc (.cells #[.int .i64 0, .slice none 0 0] 67)) (.cells #[.int .i64 a, v] 67)
    rw [World.size_alloc] at h
    exact cell_of_row _ _ 0 _ _ _ h
  go_enter Try.func122, Try.ntmps122
  go_wp2
  go_region_held3 (fun w9 => w9.cell? ⟨w.heap.size + 1, 0, none⟩ = some (.int .i64 a) ∧ w9.cell? ⟨g, 1, none⟩ = some (.int .i64 last)) (exact ⟨hS1, hS2⟩) (fail)
  go_wp2
  · refine wpIn_region_held (fun w9 => w9.cell? ⟨w.heap.size + 1, 0, none⟩ = some (.int .i64 a)) (by kernel_rfl) (hS0 _) (fun hHeld => ?_)
    refine wpAnyH_take (i := 0) (oi := ?_) (v := ?_) ?hiu1 (by as_aux_lemma => kernel_rfl) (by as_aux_lemma => kernel_rfl) (by as_aux_lemma => kernel_rfl) ?hQu1 (Or.inl ⟨?hwu1, ?hyu1⟩) hHeld ?restu1
    case hiu1 => simp only [List.getElem?_toArray, List.getElem?_cons_zero, List.getElem?_cons_succ]; rfl
    case hwu1 => rfl
    case hyu1 => (intro w9 hSw; (try dsimp only at hSw); go_simp; (try with_reducible rfl))
    case hQu1 => exact fun _ _ _ h => h
    (try simp only [Act.put, List.setIfInBounds_toArray, List.set_cons_zero, List.set_cons_succ])
    refine wpAnyH_take (i := 1) (oi := ?_) (v := ?_) ?hiu2 (by as_aux_lemma => kernel_rfl) (by as_aux_lemma => kernel_rfl) (by as_aux_lemma => kernel_rfl) ?hQu2 (Or.inl ⟨?hwu2, ?hyu2⟩) hHeld ?restu2
    case hiu2 => simp only [List.getElem?_toArray, List.getElem?_cons_zero, List.getElem?_cons_succ]; rfl
    case hwu2 => rfl
    case hyu2 => (intro w9 hSw; (try dsimp only at hSw); go_simp; (try with_reducible rfl))
    case hQu2 => exact fun _ _ _ h => h
    (try simp only [Act.put, List.setIfInBounds_toArray, List.set_cons_zero, List.set_cons_succ])
    refine wpAnyH_take (i := 2) (oi := ?_) (v := ?_) ?hiu3 (by as_aux_lemma => kernel_rfl) (by as_aux_lemma => kernel_rfl) (by as_aux_lemma => kernel_rfl) ?hQu3 (Or.inl ⟨?hwu3, ?hyu3⟩) hHeld ?restu3
    case hiu3 => simp only [List.getElem?_toArray, List.getElem?_cons_zero, List.getElem?_cons_succ]; rfl
    case hwu3 => rfl
    case hyu3 => (intro w9 hSw; (try dsimp only at hSw); go_simp; (try with_reducible rfl))
    case hQu3 => exact fun _ _ _ h => h
    (try simp only [Act.put, List.setIfInBounds_toArray, List.set_cons_zero, List.set_cons_succ])
    refine wpAnyH_take (i := 3) (oi := ?_) (v := ?_) ?hiu4 (by as_aux_lemma => kernel_rfl) (by as_aux_lemma => kernel_rfl) (by as_aux_lemma => kernel_rfl) ?hQu4 (Or.inl ⟨?hwu4, ?hyu4⟩) hHeld ?restu4
    case hiu4 => simp only [List.getElem?_toArray, List.getElem?_cons_zero, List.getElem?_cons_succ]; rfl
    case hwu4 => rfl
    case hyu4 => (intro w9 hSw; (try dsimp only at hSw); go_simp; (try with_reducible rfl))
    case hQu4 => exact fun _ _ _ h => h
    (try simp only [Act.put, List.setIfInBounds_toArray, List.set_cons_zero, List.set_cons_succ])
    refine wpAnyH_take (i := 4) (oi := ?_) (v := ?_) ?hiu5 (by as_aux_lemma => kernel_rfl) (by as_aux_lemma => kernel_rfl) (by as_aux_lemma => kernel_rfl) ?hQu5 (Or.inl ⟨?hwu5, ?hyu5⟩) hHeld ?restu5
    case hiu5 => simp only [List.getElem?_toArray, List.getElem?_cons_zero, List.getElem?_cons_succ]; rfl
    case hwu5 => rfl
    case hyu5 => (intro w9 hSw; (try dsimp only at hSw); go_simp; (try with_reducible rfl))
    case hQu5 => exact fun _ _ _ h => h
    (try simp only [Act.put, List.setIfInBounds_toArray, List.set_cons_zero, List.set_cons_succ])
    refine wpAnyH_take (i := 6) (oi := ?_) (v := ?_) ?hiu6 (by as_aux_lemma => kernel_rfl) (by as_aux_lemma => kernel_rfl) (by as_aux_lemma => kernel_rfl) ?hQu6 (Or.inl ⟨?hwu6, ?hyu6⟩) hHeld ?restu6
    case hiu6 => simp only [List.getElem?_toArray, List.getElem?_cons_zero, List.getElem?_cons_succ]; rfl
    case hwu6 => rfl
    case hyu6 => (intro w9 hSw; (try dsimp only at hSw); go_simp; (try with_reducible rfl))
    case hQu6 => exact fun _ _ _ h => h
    (try simp only [Act.put, List.setIfInBounds_toArray, List.set_cons_zero, List.set_cons_succ])
    refine wpAnyH_take (i := 8) (oi := ?_) (v := ?_) ?hiu7 (by as_aux_lemma => kernel_rfl) (by as_aux_lemma => kernel_rfl) (by as_aux_lemma => kernel_rfl) ?hQu7 (Or.inl ⟨?hwu7, ?hyu7⟩) hHeld ?restu7
    case hiu7 => simp only [List.getElem?_toArray, List.getElem?_cons_zero, List.getElem?_cons_succ]; rfl
    case hwu7 => rfl
    case hyu7 => (intro w9 hSw; (try dsimp only at hSw); go_simp; (try with_reducible rfl))
    case hQu7 => exact fun _ _ _ h => h
    (try simp only [Act.put, List.setIfInBounds_toArray, List.set_cons_zero, List.set_cons_succ])
    refine wpAnyH_take (i := 9) (oi := ?_) (v := ?_) ?hiu8 (by as_aux_lemma => kernel_rfl) (by as_aux_lemma => kernel_rfl) (by as_aux_lemma => kernel_rfl) ?hQu8 (Or.inl ⟨?hwu8, ?hyu8⟩) hHeld ?restu8
    case hiu8 => simp only [List.getElem?_toArray, List.getElem?_cons_zero, List.getElem?_cons_succ]; rfl
    case hwu8 => rfl
    case hyu8 => (intro w9 hSw; (try dsimp only at hSw); go_simp; (try with_reducible rfl))
    case hQu8 => exact fun _ _ _ h => h
    (try simp only [Act.put, List.setIfInBounds_toArray, List.set_cons_zero, List.set_cons_succ])
    refine wpAnyH_ready (rs := [5]) (by as_aux_lemma => kernel_rfl) (by simp) (AllReadyH.cons (o := ?_) ?hiu9 (fun K hK => ?_) AllReadyH.nil)
    case hiu9 => simp only [List.getElem?_toArray, List.getElem?_cons_zero, List.getElem?_cons_succ]; rfl
    go_simp
    refine hK.out _ _ ?_ (fun hHeld => ?_)
    · exact hHeld
    clear hK K
    (try simp only [Act.put, List.setIfInBounds_toArray, List.set_cons_zero, List.set_cons_succ])
    refine wpAnyH_take (i := 7) (oi := ?_) (v := ?_) ?hiu10 (by as_aux_lemma => kernel_rfl) (by as_aux_lemma => kernel_rfl) (by as_aux_lemma => kernel_rfl) ?hQu10 (Or.inl ⟨?hwu10, ?hyu10⟩) hHeld ?restu10
    case hiu10 => simp only [List.getElem?_toArray, List.getElem?_cons_zero, List.getElem?_cons_succ]; rfl
    case hwu10 => rfl
    case hyu10 => (intro w9 hSw; (try dsimp only at hSw); go_simp; (try with_reducible rfl))
    case hQu10 => exact fun _ _ _ h => h
    (try simp only [Act.put, List.setIfInBounds_toArray, List.set_cons_zero, List.set_cons_succ])
    refine wpAnyH_take (i := 10) (oi := ?_) (v := ?_) ?hiu11 (by as_aux_lemma => kernel_rfl) (by as_aux_lemma => kernel_rfl) (by as_aux_lemma => kernel_rfl) ?hQu11 (Or.inl ⟨?hwu11, ?hyu11⟩) hHeld ?restu11
    case hiu11 => simp only [List.getElem?_toArray, List.getElem?_cons_zero, List.getElem?_cons_succ]; rfl
    case hwu11 => rfl
    case hyu11 => (intro w9 hSw; (try dsimp only at hSw); go_simp; (try with_reducible rfl))
    case hQu11 => exact fun _ _ _ h => h
    (try simp only [Act.put, List.setIfInBounds_toArray, List.set_cons_zero, List.set_cons_succ])
    refine wpAnyH_take (i := 11) (oi := ?_) (v := ?_) ?hiu12 (by as_aux_lemma => kernel_rfl) (by as_aux_lemma => kernel_rfl) (by as_aux_lemma => kernel_rfl) ?hQu12 (Or.inl ⟨?hwu12, ?hyu12⟩) hHeld ?restu12
    case hiu12 => simp only [List.getElem?_toArray, List.getElem?_cons_zero, List.getElem?_cons_succ]; rfl
    case hwu12 => rfl
    case hyu12 => (intro w9 hSw; (try dsimp only at hSw); go_simp; (try with_reducible rfl))
    case hQu12 => exact fun _ _ _ h => h
    (try simp only [Act.put, List.setIfInBounds_toArray, List.set_cons_zero, List.set_cons_succ])
    refine wpAnyH_ready (rs := [12]) (by as_aux_lemma => kernel_rfl) (by simp) (AllReadyH.cons (o := ?_) ?hiu13 (fun K hK => ?_) AllReadyH.nil)
    case hiu13 => simp only [List.getElem?_toArray, List.getElem?_cons_zero, List.getElem?_cons_succ]; rfl
    go_simp
    refine hK.out _ _ ?_ (fun hHeld => ?_)
    · exact nx_keep _ _ _ _ _ (by simp)
    clear hK K
    (try simp only [Act.put, List.setIfInBounds_toArray, List.set_cons_zero, List.set_cons_succ])
    refine wpAnyH_take (i := 13) (oi := ?_) (v := ?_) ?hiu14 (by as_aux_lemma => kernel_rfl) (by as_aux_lemma => kernel_rfl) (by as_aux_lemma => kernel_rfl) ?hQu14 (Or.inl ⟨?hwu14, ?hyu14⟩) hHeld ?restu14
    case hiu14 => simp only [List.getElem?_toArray, List.getElem?_cons_zero, List.getElem?_cons_succ]; rfl
    case hwu14 => rfl
    case hyu14 => (intro w9 hSw; (try dsimp only at hSw); go_simp; (try with_reducible rfl))
    case hQu14 => exact fun _ _ _ h => h
    (try simp only [Act.put, List.setIfInBounds_toArray, List.set_cons_zero, List.set_cons_succ])
    refine wpAnyH_take (i := 14) (oi := ?_) (v := ?_) ?hiu15 (by as_aux_lemma => kernel_rfl) (by as_aux_lemma => kernel_rfl) (by as_aux_lemma => kernel_rfl) ?hQu15 (Or.inl ⟨?hwu15, ?hyu15⟩) hHeld ?restu15
    case hiu15 => simp only [List.getElem?_toArray, List.getElem?_cons_zero, List.getElem?_cons_succ]; rfl
    case hwu15 => rfl
    case hyu15 => (intro w9 hSw; (try dsimp only at hSw); go_simp; (try with_reducible rfl))
    case hQu15 => exact fun _ _ _ h => h
    (try simp only [Act.put, List.setIfInBounds_toArray, List.set_cons_zero, List.set_cons_succ])
    refine wpAnyH_ready (rs := [15]) (by as_aux_lemma => kernel_rfl) (by simp) (AllReadyH.cons (o := ?_) ?hiu16 (fun K hK => ?_) AllReadyH.nil)
    case hiu16 => simp only [List.getElem?_toArray, List.getElem?_cons_zero, List.getElem?_cons_succ]; rfl
    go_simp
    refine hK.out _ _ ?_ (fun hHeld => ?_)
    · exact nx_keep _ _ _ _ _ (by simp)
    clear hK K
    (try simp only [Act.put, List.setIfInBounds_toArray, List.set_cons_zero, List.set_cons_succ])
    refine wpAnyH_done (by as_aux_lemma => kernel_rfl) ?_ _
    dsimp only [onlyN]
    go_wp2
    · rename_i hm hc2
      have := HN.out
      exact bodyPost_ret (results_keyrow rfl Try.underlying67 rfl rfl rfl (nx_heap _ _ _ _ _ _) infoF) rfl (nx_fin HG.out hb0 hg0 (RdI.nil _ _ _) (by rw [List.drop_eq_nil_of_le (by omega)]; exact RdI.nil _ _ _) (by omega) (by omega) (by omega) _ _)
    · have := HN.out
      exact bodyPost_ret (results_keyrow rfl Try.underlying67 rfl rfl rfl (nx_heap _ _ _ _ _ _) infoF) rfl (nx_fin HG.out hb0 hg0 (RdI.nil _ _ _) (by have h := RdI.sub HR.out 2 t.length; rw [add_two] at h; simpa using h) (by omega) (by omega) (by omega) _ _)
  · refine wpIn_region_held (fun w9 => w9.cell? ⟨w.heap.size + 1, 0, none⟩ = some (.int .i64 a)) (by kernel_rfl) (hS0 _) (fun hHeld => ?_)
    refine wpAnyH_take (i := 0) (oi := ?_) (v := ?_) ?hiu17 (by as_aux_lemma => kernel_rfl) (by as_aux_lemma => kernel_rfl) (by as_aux_lemma => kernel_rfl) ?hQu17 (Or.inl ⟨?hwu17, ?hyu17⟩) hHeld ?restu17
    case hiu17 => simp only [List.getElem?_toArray, List.getElem?_cons_zero, List.getElem?_cons_succ]; rfl
    case hwu17 => rfl
    case hyu17 => (intro w9 hSw; (try dsimp only at hSw); go_simp; (try with_reducible rfl))
    case hQu17 => exact fun _ _ _ h => h
    (try simp only [Act.put, List.setIfInBounds_toArray, List.set_cons_zero, List.set_cons_succ])
    refine wpAnyH_take (i := 1) (oi := ?_) (v := ?_) ?hiu18 (by as_aux_lemma => kernel_rfl) (by as_aux_lemma => kernel_rfl) (by as_aux_lemma => kernel_rfl) ?hQu18 (Or.inl ⟨?hwu18, ?hyu18⟩) hHeld ?restu18
    case hiu18 => simp only [List.getElem?_toArray, List.getElem?_cons_zero, List.getElem?_cons_succ]; rfl
    case hwu18 => rfl
    case hyu18 => (intro w9 hSw; (try dsimp only at hSw); go_simp; (try with_reducible rfl))
    case hQu18 => exact fun _ _ _ h => h
    (try simp only [Act.put, List.setIfInBounds_toArray, List.set_cons_zero, List.set_cons_succ])
    refine wpAnyH_take (i := 2) (oi := ?_) (v := ?_) ?hiu19 (by as_aux_lemma => kernel_rfl) (by as_aux_lemma => kernel_rfl) (by as_aux_lemma => kernel_rfl) ?hQu19 (Or.inl ⟨?hwu19, ?hyu19⟩) hHeld ?restu19
    case hiu19 => simp only [List.getElem?_toArray, List.getElem?_cons_zero, List.getElem?_cons_succ]; rfl
    case hwu19 => rfl
    case hyu19 => (intro w9 hSw; (try dsimp only at hSw); go_simp; (try with_reducible rfl))
    case hQu19 => exact fun _ _ _ h => h
    (try simp only [Act.put, List.setIfInBounds_toArray, List.set_cons_zero, List.set_cons_succ])
    refine wpAnyH_take (i := 3) (oi := ?_) (v := ?_) ?hiu20 (by as_aux_lemma => kernel_rfl) (by as_aux_lemma => kernel_rfl) (by as_aux_lemma => kernel_rfl) ?hQu20 (Or.inl ⟨?hwu20, ?hyu20⟩) hHeld ?restu20
    case hiu20 => simp only [List.getElem?_toArray, List.getElem?_cons_zero, List.getElem?_cons_succ]; rfl
    case hwu20 => rfl
    case hyu20 => (intro w9 hSw; (try dsimp only at hSw); go_simp; (try with_reducible rfl))
    case hQu20 => exact fun _ _ _ h => h
    (try simp only [Act.put, List.setIfInBounds_toArray, List.set_cons_zero, List.set_cons_succ])
    refine wpAnyH_take (i := 4) (oi := ?_) (v := ?_) ?hiu21 (by as_aux_lemma => kernel_rfl) (by as_aux_lemma => kernel_rfl) (by as_aux_lemma => kernel_rfl) ?hQu21 (Or.inl ⟨?hwu21, ?hyu21⟩) hHeld ?restu21
    case hiu21 => simp only [List.getElem?_toArray, List.getElem?_cons_zero, List.getElem?_cons_succ]; rfl
    case hwu21 => rfl
    case hyu21 => (intro w9 hSw; (try dsimp only at hSw); go_simp; (try with_reducible rfl))
    case hQu21 => exact fun _ _ _ h => h
    (try simp only [Act.put, List.setIfInBounds_toArray, List.set_cons_zero, List.set_cons_succ])
    refine wpAnyH_take (i := 6) (oi := ?_) (v := ?_) ?hiu22 (by as_aux_lemma => kernel_rfl) (by as_aux_lemma => kernel_rfl) (by as_aux_lemma => kernel_rfl) ?hQu22 (Or.inl ⟨?hwu22, ?hyu22⟩) hHeld ?restu22
    case hiu22 => simp only [List.getElem?_toArray, List.getElem?_cons_zero, List.getElem?_cons_succ]; rfl
    case hwu22 => rfl
    case hyu22 => (intro w9 hSw; (try dsimp only at hSw); go_simp; (try with_reducible rfl))
    case hQu22 => exact fun _ _ _ h => h
    (try simp only [Act.put, List.setIfInBounds_toArray, List.set_cons_zero, List.set_cons_succ])
    refine wpAnyH_take (i := 8) (oi := ?_) (v := ?_) ?hiu23 (by as_aux_lemma => kernel_rfl) (by as_aux_lemma => kernel_rfl) (by as_aux_lemma => kernel_rfl) ?hQu23 (Or.inl ⟨?hwu23, ?hyu23⟩) hHeld ?restu23
    case hiu23 => simp only [List.getElem?_toArray, List.getElem?_cons_zero, List.getElem?_cons_succ]; rfl
    case hwu23 => rfl
    case hyu23 => (intro w9 hSw; (try dsimp only at hSw); go_simp; (try with_reducible rfl))
    case hQu23 => exact fun _ _ _ h => h
    (try simp only [Act.put, List.setIfInBounds_toArray, List.set_cons_zero, List.set_cons_succ])
    refine wpAnyH_take (i := 9) (oi := ?_) (v := ?_) ?hiu24 (by as_aux_lemma => kernel_rfl) (by as_aux_lemma => kernel_rfl) (by as_aux_lemma => kernel_rfl) ?hQu24 (Or.inl ⟨?hwu24, ?hyu24⟩) hHeld ?restu24
    case hiu24 => simp only [List.getElem?_toArray, List.getElem?_cons_zero, List.getElem?_cons_succ]; rfl
    case hwu24 => rfl
    case hyu24 => (intro w9 hSw; (try dsimp only at hSw); go_simp; (try with_reducible rfl))
    case hQu24 => exact fun _ _ _ h => h
    (try simp only [Act.put, List.setIfInBounds_toArray, List.set_cons_zero, List.set_cons_succ])
    refine wpAnyH_ready (rs := [5]) (by as_aux_lemma => kernel_rfl) (by simp) (AllReadyH.cons (o := ?_) ?hiu25 (fun K hK => ?_) AllReadyH.nil)
    case hiu25 => simp only [List.getElem?_toArray, List.getElem?_cons_zero, List.getElem?_cons_succ]; rfl
    go_simp
    refine hK.out _ _ ?_ (fun hHeld => ?_)
    · exact hHeld
    clear hK K
    (try simp only [Act.put, List.setIfInBounds_toArray, List.set_cons_zero, List.set_cons_succ])
    refine wpAnyH_take (i := 7) (oi := ?_) (v := ?_) ?hiu26 (by as_aux_lemma => kernel_rfl) (by as_aux_lemma => kernel_rfl) (by as_aux_lemma => kernel_rfl) ?hQu26 (Or.inl ⟨?hwu26, ?hyu26⟩) hHeld ?restu26
    case hiu26 => simp only [List.getElem?_toArray, List.getElem?_cons_zero, List.getElem?_cons_succ]; rfl
    case hwu26 => rfl
    case hyu26 => (intro w9 hSw; (try dsimp only at hSw); go_simp; (try with_reducible rfl))
    case hQu26 => exact fun _ _ _ h => h
    (try simp only [Act.put, List.setIfInBounds_toArray, List.set_cons_zero, List.set_cons_succ])
    refine wpAnyH_take (i := 10) (oi := ?_) (v := ?_) ?hiu27 (by as_aux_lemma => kernel_rfl) (by as_aux_lemma => kernel_rfl) (by as_aux_lemma => kernel_rfl) ?hQu27 (Or.inl ⟨?hwu27, ?hyu27⟩) hHeld ?restu27
    case hiu27 => simp only [List.getElem?_toArray, List.getElem?_cons_zero, List.getElem?_cons_succ]; rfl
    case hwu27 => rfl
    case hyu27 => (intro w9 hSw; (try dsimp only at hSw); go_simp; (try with_reducible rfl))
    case hQu27 => exact fun _ _ _ h => h
    (try simp only [Act.put, List.setIfInBounds_toArray, List.set_cons_zero, List.set_cons_succ])
    refine wpAnyH_take (i := 11) (oi := ?_) (v := ?_) ?hiu28 (by as_aux_lemma => kernel_rfl) (by as_aux_lemma => kernel_rfl) (by as_aux_lemma => kernel_rfl) ?hQu28 (Or.inl ⟨?hwu28, ?hyu28⟩) hHeld ?restu28
    case hiu28 => simp only [List.getElem?_toArray, List.getElem?_cons_zero, List.getElem?_cons_succ]; rfl
    case hwu28 => rfl
    case hyu28 => (intro w9 hSw; (try dsimp only at hSw); go_simp; (try with_reducible rfl))
    case hQu28 => exact fun _ _ _ h => h
    (try simp only [Act.put, List.setIfInBounds_toArray, List.set_cons_zero, List.set_cons_succ])
    refine wpAnyH_ready (rs := [12]) (by as_aux_lemma => kernel_rfl) (by simp) (AllReadyH.cons (o := ?_) ?hiu29 (fun K hK => ?_) AllReadyH.nil)
    case hiu29 => simp only [List.getElem?_toArray, List.getElem?_cons_zero, List.getElem?_cons_succ]; rfl
    go_simp
    refine hK.out _ _ ?_ (fun hHeld => ?_)
    · exact nx_keep _ _ _ _ _ (by simp)
    clear hK K
    (try simp only [Act.put, List.setIfInBounds_toArray, List.set_cons_zero, List.set_cons_succ])
    refine wpAnyH_take (i := 13) (oi := ?_) (v := ?_) ?hiu30 (by as_aux_lemma => kernel_rfl) (by as_aux_lemma => kernel_rfl) (by as_aux_lemma => kernel_rfl) ?hQu30 (Or.inl ⟨?hwu30, ?hyu30⟩) hHeld ?restu30
    case hiu30 => simp only [List.getElem?_toArray, List.getElem?_cons_zero, List.getElem?_cons_succ]; rfl
    case hwu30 => rfl
    case hyu30 => (intro w9 hSw; (try dsimp only at hSw); go_simp; (try with_reducible rfl))
    case hQu30 => exact fun _ _ _ h => h
    (try simp only [Act.put, List.setIfInBounds_toArray, List.set_cons_zero, List.set_cons_succ])
    refine wpAnyH_take (i := 14) (oi := ?_) (v := ?_) ?hiu31 (by as_aux_lemma => kernel_rfl) (by as_aux_lemma => kernel_rfl) (by as_aux_lemma => kernel_rfl) ?hQu31 (Or.inl ⟨?hwu31, ?hyu31⟩) hHeld ?restu31
    case hiu31 => simp only [List.getElem?_toArray, List.getElem?_cons_zero, List.getElem?_cons_succ]; rfl
    case hwu31 => rfl
    case hyu31 => (intro w9 hSw; (try dsimp only at hSw); go_simp; (try with_reducible rfl))
    case hQu31 => exact fun _ _ _ h => h
    (try simp only [Act.put, List.setIfInBounds_toArray, List.set_cons_zero, List.set_cons_succ])
    refine wpAnyH_ready (rs := [15]) (by as_aux_lemma => kernel_rfl) (by simp) (AllReadyH.cons (o := ?_) ?hiu32 (fun K hK => ?_) AllReadyH.nil)
    case hiu32 => simp only [List.getElem?_toArray, List.getElem?_cons_zero, List.getElem?_cons_succ]; rfl
    go_simp
    refine hK.out _ _ ?_ (fun hHeld => ?_)
    · exact nx_keep _ _ _ _ _ (by simp)
    clear hK K
    (try simp only [Act.put, List.setIfInBounds_toArray, List.set_cons_zero, List.set_cons_succ])
    refine wpAnyH_done (by as_aux_lemma => kernel_rfl) ?_ _
    dsimp only [onlyN]
    go_wp2
    · have := HN.out
      have h2 := HR.out.sub 2 m
      rw [add_two] at h2
      exact bodyPost_ret (results_keyrow rfl Try.underlying67 rfl rfl rfl (nx_heap _ _ _ _ _ _) infoF) rfl (nx_fin HG.out hb0 hg0 (by simpa using h2) (by rw [List.drop_eq_nil_of_le (by omega)]; exact RdI.nil _ _ _) (by omega) (by omega) (by omega) _ _)
    · have := HN.out
      have h2 := HR.out.sub 2 m
      rw [add_two] at h2
      exact bodyPost_ret (results_keyrow rfl Try.underlying67 rfl rfl rfl (nx_heap _ _ _ _ _ _) infoF) rfl (nx_fin HG.out hb0 hg0 (by simpa using h2) (by have h := RdI.sub HR.out (2 + m) t.length; rw [Nat.add_comm 2 m] at h ⊢; rw [List.take_of_length_le (by simp <;> omega)] at h; simpa using h) (by omega) (by omega) (by omega) _ _)
end Go.Proofs.Ytachkhjbckapoaa

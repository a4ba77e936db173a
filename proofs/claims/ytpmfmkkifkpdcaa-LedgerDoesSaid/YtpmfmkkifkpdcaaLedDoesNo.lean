/- Layer 24's law LedgerDoes, walked where there is no ledger, or too many entries. No condition beyond the example's. -/
import Derived.Test.YtpmfmkkifkpdcaaLedAllLaw
import Derived.Test.YtpmfmkkifkpdcaaRefAdd
namespace Go.Proofs.Ytpmfmkkifkpdcaa
open Go.RowKit Go.Maps
set_option linter.unusedVariables false
set_option maxRecDepth 100000
set_option linter.unusedSimpArgs false

set_option maxHeartbeats 4000000 in
theorem ledgerDoes_long (room : Int) (A B : Option Addr) (c d n m : Nat) (w : World) (h : 200 < n) :
    Calls Try.prog 3 #[.int .i64 room, .slice A n c, .slice B m d] w fun r w' => r = .returned (.bool true) ∧ Below w.heap.size w w' := by
  have h2 : decide ((200 : Int) < (n : Int)) = true := by simp; omega
  by_cases hr : room < 1 ∨ 64 < room
  · have HR := Lib.hid hr
    clear hr h
    go_enter Try.func3, Try.ntmps3
    go_wp2_with (first
      | (go_at_call 11; (with_reducible refine (ledNewNo_any room _ HR.out).mono ?_); rintro r w1 ⟨rfl, rfl⟩)
      | (go_at_call 12; (with_reducible refine (rledNewNo_any room _ HR.out).mono ?_); rintro r w1 ⟨rfl, rfl⟩))
    go_ret
    exact ⟨rfl, bR _⟩
  · have HR := Lib.hid (show 1 ≤ room ∧ room ≤ 64 by omega)
    clear hr h
    go_enter Try.func3, Try.ntmps3
    go_wp2_with (first
      | (go_at_call 11; (with_reducible refine (ledNew_any room _ HR.out.1 HR.out.2).mono ?_); rintro r w1 ⟨rfl, _, hb1⟩)
      | (go_at_call 12; (with_reducible refine (rledNew_any room _ HR.out.1 HR.out.2).mono ?_); rintro r w2 ⟨rfl, _, hb2⟩))
    go_ret
    exact ⟨rfl, bT hb1 hb2⟩
set_option maxHeartbeats 4000000 in
theorem ledgerDoes_no (room : Int) (A B : Option Addr) (c d n m : Nat) (w : World) (hk : KeptSays) (h : n ≤ 200) (hr : room < 1 ∨ 64 < room) :
    Calls Try.prog 3 #[.int .i64 room, .slice A n c, .slice B m d] w fun r w' => r = .returned (.bool true) ∧ Below w.heap.size w w' := by
  have h2 : decide ((200 : Int) < (n : Int)) = false := by simp; omega
  have HR := Lib.hid hr
  clear hr
  by_cases d0 : 0 < n
  · go_enter Try.func3, Try.ntmps3
    go_wp2_with (first
      | (go_at_call 11; (with_reducible refine (ledNewNo_any room _ HR.out).mono ?_); rintro r w1 ⟨rfl, rfl⟩)
      | (go_at_call 12; (with_reducible refine (rledNewNo_any room _ HR.out).mono ?_); rintro r w1 ⟨rfl, rfl⟩))
    refine wp_loop_rounds 1 ?_
    rw [rounds_succ]
    go_wp2
    refine wp_region_held_drew (S := fun w9 => Below w.heap.size w w9) (by kernel_rfl) (bD (bR w)) (fun hHeld => ?_)
    refine wpAnyH_ready (rs := [0]) (by as_aux_lemma => kernel_rfl) (by simp) (AllReadyH.cons (o := ?_) ?hiu1 (fun K hK => ?_) AllReadyH.nil)
    case hiu1 => simp only [List.getElem?_toArray, List.getElem?_cons_zero, List.getElem?_cons_succ]; rfl
    (try rw [if_pos (by rfl)])
    go_wp2_with fail
    refine (hk _).mono ?_
    rintro e w5 ⟨rfl, hb5⟩
    dsimp only
    refine hK.out _ _ ?_ (fun hHeld => ?_)
    · exact bT hHeld hb5
    clear hK K
    (try simp only [Act.put, List.setIfInBounds_toArray, List.set_cons_zero, List.set_cons_succ])
    refine wpAnyH_take (i := 1) (oi := ?_) (v := ?_) ?hiu2 (by as_aux_lemma => kernel_rfl) (by as_aux_lemma => kernel_rfl) (by as_aux_lemma => kernel_rfl) ?hQu2 (Or.inl ⟨?hwu2, ?hyu2⟩) hHeld ?restu2
    case hiu2 => simp only [List.getElem?_toArray, List.getElem?_cons_zero, List.getElem?_cons_succ]; rfl
    case hwu2 => rfl
    case hyu2 => (intro w9 hSw; (try dsimp only at hSw); go_simp; (try with_reducible rfl))
    case hQu2 => exact fun _ _ _ h => h
    (try simp only [Act.put, List.setIfInBounds_toArray, List.set_cons_zero, List.set_cons_succ])
    refine wpAnyH_take (i := 2) (oi := ?_) (v := ?_) ?hiu3 (by as_aux_lemma => kernel_rfl) (by as_aux_lemma => kernel_rfl) (by as_aux_lemma => kernel_rfl) ?hQu3 (Or.inl ⟨?hwu3, ?hyu3⟩) hHeld ?restu3
    case hiu3 => simp only [List.getElem?_toArray, List.getElem?_cons_zero, List.getElem?_cons_succ]; rfl
    case hwu3 => rfl
    case hyu3 => (intro w9 hSw; (try dsimp only at hSw); go_simp; (try with_reducible rfl))
    case hQu3 => exact fun _ _ _ h => h
    (try simp only [Act.put, List.setIfInBounds_toArray, List.set_cons_zero, List.set_cons_succ])
    refine wpAnyH_take (i := 3) (oi := ?_) (v := ?_) ?hiu4 (by as_aux_lemma => kernel_rfl) (by as_aux_lemma => kernel_rfl) (by as_aux_lemma => kernel_rfl) ?hQu4 (Or.inl ⟨?hwu4, ?hyu4⟩) hHeld ?restu4
    case hiu4 => simp only [List.getElem?_toArray, List.getElem?_cons_zero, List.getElem?_cons_succ]; rfl
    case hwu4 => rfl
    case hyu4 => (intro w9 hSw; (try dsimp only at hSw); go_simp; (try with_reducible rfl))
    case hQu4 => exact fun _ _ _ h => h
    (try simp only [Act.put, List.setIfInBounds_toArray, List.set_cons_zero, List.set_cons_succ])
    refine wpAnyH_take (i := 4) (oi := ?_) (v := ?_) ?hiu5 (by as_aux_lemma => kernel_rfl) (by as_aux_lemma => kernel_rfl) (by as_aux_lemma => kernel_rfl) ?hQu5 (Or.inl ⟨?hwu5, ?hyu5⟩) hHeld ?restu5
    case hiu5 => simp only [List.getElem?_toArray, List.getElem?_cons_zero, List.getElem?_cons_succ]; rfl
    case hwu5 => rfl
    case hyu5 => (intro w9 hSw; (try dsimp only at hSw); go_simp; (try with_reducible rfl))
    case hQu5 => exact fun _ _ _ h => h
    (try simp only [Act.put, List.setIfInBounds_toArray, List.set_cons_zero, List.set_cons_succ])
    refine wpAnyH_take (i := 5) (oi := ?_) (v := undef) ?hiu6 (by as_aux_lemma => kernel_rfl) (by as_aux_lemma => kernel_rfl) (by as_aux_lemma => kernel_rfl) ?hQu6 (Or.inr ⟨?hwu6, rfl⟩) hHeld ?restu6
    case hiu6 => simp only [List.getElem?_toArray, List.getElem?_cons_zero, List.getElem?_cons_succ]; rfl
    case hwu6 => rfl
    case hQu6 => exact fun _ _ _ h => h
    (try simp only [Act.put, List.setIfInBounds_toArray, List.set_cons_zero, List.set_cons_succ])
    refine wpAnyH_take (i := 6) (oi := ?_) (v := undef) ?hiu7 (by as_aux_lemma => kernel_rfl) (by as_aux_lemma => kernel_rfl) (by as_aux_lemma => kernel_rfl) ?hQu7 (Or.inr ⟨?hwu7, rfl⟩) hHeld ?restu7
    case hiu7 => simp only [List.getElem?_toArray, List.getElem?_cons_zero, List.getElem?_cons_succ]; rfl
    case hwu7 => rfl
    case hQu7 => exact fun _ _ _ h => h
    (try simp only [Act.put, List.setIfInBounds_toArray, List.set_cons_zero, List.set_cons_succ])
    refine wpAnyH_take (i := 7) (oi := ?_) (v := undef) ?hiu8 (by as_aux_lemma => kernel_rfl) (by as_aux_lemma => kernel_rfl) (by as_aux_lemma => kernel_rfl) ?hQu8 (Or.inr ⟨?hwu8, rfl⟩) hHeld ?restu8
    case hiu8 => simp only [List.getElem?_toArray, List.getElem?_cons_zero, List.getElem?_cons_succ]; rfl
    case hwu8 => rfl
    case hQu8 => exact fun _ _ _ h => h
    (try simp only [Act.put, List.setIfInBounds_toArray, List.set_cons_zero, List.set_cons_succ])
    refine wpAnyH_take (i := 8) (oi := ?_) (v := undef) ?hiu9 (by as_aux_lemma => kernel_rfl) (by as_aux_lemma => kernel_rfl) (by as_aux_lemma => kernel_rfl) ?hQu9 (Or.inr ⟨?hwu9, rfl⟩) hHeld ?restu9
    case hiu9 => simp only [List.getElem?_toArray, List.getElem?_cons_zero, List.getElem?_cons_succ]; rfl
    case hwu9 => rfl
    case hQu9 => exact fun _ _ _ h => h
    (try simp only [Act.put, List.setIfInBounds_toArray, List.set_cons_zero, List.set_cons_succ])
    refine wpAnyH_take (i := 9) (oi := ?_) (v := undef) ?hiu10 (by as_aux_lemma => kernel_rfl) (by as_aux_lemma => kernel_rfl) (by as_aux_lemma => kernel_rfl) ?hQu10 (Or.inr ⟨?hwu10, rfl⟩) hHeld ?restu10
    case hiu10 => simp only [List.getElem?_toArray, List.getElem?_cons_zero, List.getElem?_cons_succ]; rfl
    case hwu10 => rfl
    case hQu10 => exact fun _ _ _ h => h
    (try simp only [Act.put, List.setIfInBounds_toArray, List.set_cons_zero, List.set_cons_succ])
    refine wpAnyH_take (i := 10) (oi := ?_) (v := undef) ?hiu11 (by as_aux_lemma => kernel_rfl) (by as_aux_lemma => kernel_rfl) (by as_aux_lemma => kernel_rfl) ?hQu11 (Or.inr ⟨?hwu11, rfl⟩) hHeld ?restu11
    case hiu11 => simp only [List.getElem?_toArray, List.getElem?_cons_zero, List.getElem?_cons_succ]; rfl
    case hwu11 => rfl
    case hQu11 => exact fun _ _ _ h => h
    (try simp only [Act.put, List.setIfInBounds_toArray, List.set_cons_zero, List.set_cons_succ])
    refine wpAnyH_take (i := 11) (oi := ?_) (v := undef) ?hiu12 (by as_aux_lemma => kernel_rfl) (by as_aux_lemma => kernel_rfl) (by as_aux_lemma => kernel_rfl) ?hQu12 (Or.inr ⟨?hwu12, rfl⟩) hHeld ?restu12
    case hiu12 => simp only [List.getElem?_toArray, List.getElem?_cons_zero, List.getElem?_cons_succ]; rfl
    case hwu12 => rfl
    case hQu12 => exact fun _ _ _ h => h
    (try simp only [Act.put, List.setIfInBounds_toArray, List.set_cons_zero, List.set_cons_succ])
    refine wpAnyH_take (i := 12) (oi := ?_) (v := ?_) ?hiu13 (by as_aux_lemma => kernel_rfl) (by as_aux_lemma => kernel_rfl) (by as_aux_lemma => kernel_rfl) ?hQu13 (Or.inl ⟨?hwu13, ?hyu13⟩) hHeld ?restu13
    case hiu13 => simp only [List.getElem?_toArray, List.getElem?_cons_zero, List.getElem?_cons_succ]; rfl
    case hwu13 => rfl
    case hyu13 => (intro w9 hSw; (try dsimp only at hSw); go_simp; (try with_reducible rfl))
    case hQu13 => exact fun _ _ _ h => h
    (try simp only [Act.put, List.setIfInBounds_toArray, List.set_cons_zero, List.set_cons_succ])
    refine wpAnyH_take (i := 13) (oi := ?_) (v := ?_) ?hiu14 (by as_aux_lemma => kernel_rfl) (by as_aux_lemma => kernel_rfl) (by as_aux_lemma => kernel_rfl) ?hQu14 (Or.inl ⟨?hwu14, ?hyu14⟩) hHeld ?restu14
    case hiu14 => simp only [List.getElem?_toArray, List.getElem?_cons_zero, List.getElem?_cons_succ]; rfl
    case hwu14 => rfl
    case hyu14 => (intro w9 hSw; (try dsimp only at hSw); go_simp; (try with_reducible rfl))
    case hQu14 => exact fun _ _ _ h => h
    (try simp only [Act.put, List.setIfInBounds_toArray, List.set_cons_zero, List.set_cons_succ])
    refine wpAnyH_take (i := 14) (oi := ?_) (v := ?_) ?hiu15 (by as_aux_lemma => kernel_rfl) (by as_aux_lemma => kernel_rfl) (by as_aux_lemma => kernel_rfl) ?hQu15 (Or.inl ⟨?hwu15, ?hyu15⟩) hHeld ?restu15
    case hiu15 => simp only [List.getElem?_toArray, List.getElem?_cons_zero, List.getElem?_cons_succ]; rfl
    case hwu15 => rfl
    case hyu15 => (intro w9 hSw; (try dsimp only at hSw); go_simp; (try with_reducible rfl))
    case hQu15 => exact fun _ _ _ h => h
    (try simp only [Act.put, List.setIfInBounds_toArray, List.set_cons_zero, List.set_cons_succ])
    refine wpAnyH_done (by as_aux_lemma => kernel_rfl) ?_ _
    have HB7 := Lib.hid hHeld
    clear hHeld
    go_wp2
    go_ret
    exact ⟨rfl, HB7.out⟩
  · go_enter Try.func3, Try.ntmps3
    go_wp2_with (first
      | (go_at_call 11; (with_reducible refine (ledNewNo_any room _ HR.out).mono ?_); rintro r w1 ⟨rfl, rfl⟩)
      | (go_at_call 12; (with_reducible refine (rledNewNo_any room _ HR.out).mono ?_); rintro r w1 ⟨rfl, rfl⟩))
    refine wp_loop_rounds 1 ?_
    rw [rounds_succ]
    go_wp2
    refine wp_region_held_drew (S := fun w9 => Below w.heap.size w w9) (by kernel_rfl) (bD (bR w)) (fun hHeld => ?_)
    refine wpAnyH_ready (rs := [0]) (by as_aux_lemma => kernel_rfl) (by simp) (AllReadyH.cons (o := ?_) ?hiu16 (fun K hK => ?_) AllReadyH.nil)
    case hiu16 => simp only [List.getElem?_toArray, List.getElem?_cons_zero, List.getElem?_cons_succ]; rfl
    (try rw [if_pos (by rfl)])
    go_wp2_with fail
    refine (hk _).mono ?_
    rintro e w5 ⟨rfl, hb5⟩
    dsimp only
    refine hK.out _ _ ?_ (fun hHeld => ?_)
    · exact bT hHeld hb5
    clear hK K
    (try simp only [Act.put, List.setIfInBounds_toArray, List.set_cons_zero, List.set_cons_succ])
    refine wpAnyH_take (i := 1) (oi := ?_) (v := ?_) ?hiu17 (by as_aux_lemma => kernel_rfl) (by as_aux_lemma => kernel_rfl) (by as_aux_lemma => kernel_rfl) ?hQu17 (Or.inl ⟨?hwu17, ?hyu17⟩) hHeld ?restu17
    case hiu17 => simp only [List.getElem?_toArray, List.getElem?_cons_zero, List.getElem?_cons_succ]; rfl
    case hwu17 => rfl
    case hyu17 => (intro w9 hSw; (try dsimp only at hSw); go_simp; (try with_reducible rfl))
    case hQu17 => exact fun _ _ _ h => h
    (try simp only [Act.put, List.setIfInBounds_toArray, List.set_cons_zero, List.set_cons_succ])
    refine wpAnyH_take (i := 2) (oi := ?_) (v := ?_) ?hiu18 (by as_aux_lemma => kernel_rfl) (by as_aux_lemma => kernel_rfl) (by as_aux_lemma => kernel_rfl) ?hQu18 (Or.inl ⟨?hwu18, ?hyu18⟩) hHeld ?restu18
    case hiu18 => simp only [List.getElem?_toArray, List.getElem?_cons_zero, List.getElem?_cons_succ]; rfl
    case hwu18 => rfl
    case hyu18 => (intro w9 hSw; (try dsimp only at hSw); go_simp; (try with_reducible rfl))
    case hQu18 => exact fun _ _ _ h => h
    (try simp only [Act.put, List.setIfInBounds_toArray, List.set_cons_zero, List.set_cons_succ])
    refine wpAnyH_take (i := 3) (oi := ?_) (v := ?_) ?hiu19 (by as_aux_lemma => kernel_rfl) (by as_aux_lemma => kernel_rfl) (by as_aux_lemma => kernel_rfl) ?hQu19 (Or.inl ⟨?hwu19, ?hyu19⟩) hHeld ?restu19
    case hiu19 => simp only [List.getElem?_toArray, List.getElem?_cons_zero, List.getElem?_cons_succ]; rfl
    case hwu19 => rfl
    case hyu19 => (intro w9 hSw; (try dsimp only at hSw); go_simp; (try with_reducible rfl))
    case hQu19 => exact fun _ _ _ h => h
    (try simp only [Act.put, List.setIfInBounds_toArray, List.set_cons_zero, List.set_cons_succ])
    refine wpAnyH_take (i := 4) (oi := ?_) (v := ?_) ?hiu20 (by as_aux_lemma => kernel_rfl) (by as_aux_lemma => kernel_rfl) (by as_aux_lemma => kernel_rfl) ?hQu20 (Or.inl ⟨?hwu20, ?hyu20⟩) hHeld ?restu20
    case hiu20 => simp only [List.getElem?_toArray, List.getElem?_cons_zero, List.getElem?_cons_succ]; rfl
    case hwu20 => rfl
    case hyu20 => (intro w9 hSw; (try dsimp only at hSw); go_simp; (try with_reducible rfl))
    case hQu20 => exact fun _ _ _ h => h
    (try simp only [Act.put, List.setIfInBounds_toArray, List.set_cons_zero, List.set_cons_succ])
    refine wpAnyH_take (i := 5) (oi := ?_) (v := undef) ?hiu21 (by as_aux_lemma => kernel_rfl) (by as_aux_lemma => kernel_rfl) (by as_aux_lemma => kernel_rfl) ?hQu21 (Or.inr ⟨?hwu21, rfl⟩) hHeld ?restu21
    case hiu21 => simp only [List.getElem?_toArray, List.getElem?_cons_zero, List.getElem?_cons_succ]; rfl
    case hwu21 => rfl
    case hQu21 => exact fun _ _ _ h => h
    (try simp only [Act.put, List.setIfInBounds_toArray, List.set_cons_zero, List.set_cons_succ])
    refine wpAnyH_take (i := 6) (oi := ?_) (v := undef) ?hiu22 (by as_aux_lemma => kernel_rfl) (by as_aux_lemma => kernel_rfl) (by as_aux_lemma => kernel_rfl) ?hQu22 (Or.inr ⟨?hwu22, rfl⟩) hHeld ?restu22
    case hiu22 => simp only [List.getElem?_toArray, List.getElem?_cons_zero, List.getElem?_cons_succ]; rfl
    case hwu22 => rfl
    case hQu22 => exact fun _ _ _ h => h
    (try simp only [Act.put, List.setIfInBounds_toArray, List.set_cons_zero, List.set_cons_succ])
    refine wpAnyH_take (i := 7) (oi := ?_) (v := undef) ?hiu23 (by as_aux_lemma => kernel_rfl) (by as_aux_lemma => kernel_rfl) (by as_aux_lemma => kernel_rfl) ?hQu23 (Or.inr ⟨?hwu23, rfl⟩) hHeld ?restu23
    case hiu23 => simp only [List.getElem?_toArray, List.getElem?_cons_zero, List.getElem?_cons_succ]; rfl
    case hwu23 => rfl
    case hQu23 => exact fun _ _ _ h => h
    (try simp only [Act.put, List.setIfInBounds_toArray, List.set_cons_zero, List.set_cons_succ])
    refine wpAnyH_take (i := 8) (oi := ?_) (v := undef) ?hiu24 (by as_aux_lemma => kernel_rfl) (by as_aux_lemma => kernel_rfl) (by as_aux_lemma => kernel_rfl) ?hQu24 (Or.inr ⟨?hwu24, rfl⟩) hHeld ?restu24
    case hiu24 => simp only [List.getElem?_toArray, List.getElem?_cons_zero, List.getElem?_cons_succ]; rfl
    case hwu24 => rfl
    case hQu24 => exact fun _ _ _ h => h
    (try simp only [Act.put, List.setIfInBounds_toArray, List.set_cons_zero, List.set_cons_succ])
    refine wpAnyH_take (i := 9) (oi := ?_) (v := undef) ?hiu25 (by as_aux_lemma => kernel_rfl) (by as_aux_lemma => kernel_rfl) (by as_aux_lemma => kernel_rfl) ?hQu25 (Or.inr ⟨?hwu25, rfl⟩) hHeld ?restu25
    case hiu25 => simp only [List.getElem?_toArray, List.getElem?_cons_zero, List.getElem?_cons_succ]; rfl
    case hwu25 => rfl
    case hQu25 => exact fun _ _ _ h => h
    (try simp only [Act.put, List.setIfInBounds_toArray, List.set_cons_zero, List.set_cons_succ])
    refine wpAnyH_take (i := 10) (oi := ?_) (v := undef) ?hiu26 (by as_aux_lemma => kernel_rfl) (by as_aux_lemma => kernel_rfl) (by as_aux_lemma => kernel_rfl) ?hQu26 (Or.inr ⟨?hwu26, rfl⟩) hHeld ?restu26
    case hiu26 => simp only [List.getElem?_toArray, List.getElem?_cons_zero, List.getElem?_cons_succ]; rfl
    case hwu26 => rfl
    case hQu26 => exact fun _ _ _ h => h
    (try simp only [Act.put, List.setIfInBounds_toArray, List.set_cons_zero, List.set_cons_succ])
    refine wpAnyH_take (i := 11) (oi := ?_) (v := undef) ?hiu27 (by as_aux_lemma => kernel_rfl) (by as_aux_lemma => kernel_rfl) (by as_aux_lemma => kernel_rfl) ?hQu27 (Or.inr ⟨?hwu27, rfl⟩) hHeld ?restu27
    case hiu27 => simp only [List.getElem?_toArray, List.getElem?_cons_zero, List.getElem?_cons_succ]; rfl
    case hwu27 => rfl
    case hQu27 => exact fun _ _ _ h => h
    (try simp only [Act.put, List.setIfInBounds_toArray, List.set_cons_zero, List.set_cons_succ])
    refine wpAnyH_take (i := 12) (oi := ?_) (v := ?_) ?hiu28 (by as_aux_lemma => kernel_rfl) (by as_aux_lemma => kernel_rfl) (by as_aux_lemma => kernel_rfl) ?hQu28 (Or.inl ⟨?hwu28, ?hyu28⟩) hHeld ?restu28
    case hiu28 => simp only [List.getElem?_toArray, List.getElem?_cons_zero, List.getElem?_cons_succ]; rfl
    case hwu28 => rfl
    case hyu28 => (intro w9 hSw; (try dsimp only at hSw); go_simp; (try with_reducible rfl))
    case hQu28 => exact fun _ _ _ h => h
    (try simp only [Act.put, List.setIfInBounds_toArray, List.set_cons_zero, List.set_cons_succ])
    refine wpAnyH_take (i := 13) (oi := ?_) (v := ?_) ?hiu29 (by as_aux_lemma => kernel_rfl) (by as_aux_lemma => kernel_rfl) (by as_aux_lemma => kernel_rfl) ?hQu29 (Or.inl ⟨?hwu29, ?hyu29⟩) hHeld ?restu29
    case hiu29 => simp only [List.getElem?_toArray, List.getElem?_cons_zero, List.getElem?_cons_succ]; rfl
    case hwu29 => rfl
    case hyu29 => (intro w9 hSw; (try dsimp only at hSw); go_simp; (try with_reducible rfl))
    case hQu29 => exact fun _ _ _ h => h
    (try simp only [Act.put, List.setIfInBounds_toArray, List.set_cons_zero, List.set_cons_succ])
    refine wpAnyH_take (i := 14) (oi := ?_) (v := ?_) ?hiu30 (by as_aux_lemma => kernel_rfl) (by as_aux_lemma => kernel_rfl) (by as_aux_lemma => kernel_rfl) ?hQu30 (Or.inl ⟨?hwu30, ?hyu30⟩) hHeld ?restu30
    case hiu30 => simp only [List.getElem?_toArray, List.getElem?_cons_zero, List.getElem?_cons_succ]; rfl
    case hwu30 => rfl
    case hyu30 => (intro w9 hSw; (try dsimp only at hSw); go_simp; (try with_reducible rfl))
    case hQu30 => exact fun _ _ _ h => h
    (try simp only [Act.put, List.setIfInBounds_toArray, List.set_cons_zero, List.set_cons_succ])
    refine wpAnyH_done (by as_aux_lemma => kernel_rfl) ?_ _
    have HB7 := Lib.hid hHeld
    clear hHeld
    go_wp2
    go_ret
    exact ⟨rfl, HB7.out⟩
end Go.Proofs.Ytpmfmkkifkpdcaa

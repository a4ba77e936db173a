/- Layer 14: a track turned round. No condition. -/
import Derived.Test.YtachkhjbckapoaaT25
namespace Go.Proofs.Ytachkhjbckapoaa
open Go.RowKit
set_option linter.unusedVariables false
set_option maxRecDepth 100000
set_option linter.unusedSimpArgs false

/-- The bits, of which the outer k on either side are exchanged. -/
def swK (L : List Bool) (k : Nat) : List Bool := (List.range L.length).map fun i => if i < k ∨ L.length - 1 - i < k then L.getD (L.length - 1 - i) false else L.getD i false
theorem swK_len (L : List Bool) (k : Nat) : (swK L k).length = L.length := by simp [swK]
theorem swK_at (L : List Bool) (k : Nat) {i : Nat} (h : i < L.length) : (swK L k).getD i false = if i < k ∨ L.length - 1 - i < k then L.getD (L.length - 1 - i) false else L.getD i false := by
  unfold swK
  rw [List.getD_eq_getElem?_getD, List.getElem?_map, List.getElem?_range h]
  rfl
theorem swK_zero (L : List Bool) : swK L 0 = L := by
  refine ext_getD (swK_len L 0) fun i hi => ?_
  rw [swK_len] at hi
  rw [swK_at L 0 hi, if_neg (by omega)]
theorem getD_setB {l : List Bool} {i j : Nat} {b : Bool} : (l.set i b).getD j false = if i = j ∧ j < l.length then b else l.getD j false := by
  rw [List.getD_eq_getElem?_getD, List.getElem?_set, List.getD_eq_getElem?_getD]
  by_cases h : i = j
  · subst h
    by_cases h2 : i < l.length
    · rw [if_pos rfl, if_pos h2, if_pos ⟨rfl, h2⟩]; rfl
    · rw [if_pos rfl, if_neg h2, if_neg (fun h => h2 h.2), List.getElem?_eq_none (by omega)]
  · rw [if_neg h, if_neg (fun k => h k.1)]
theorem swK_step (L : List Bool) {k : Nat} (h : k < L.length / 2) : ((swK L k).set k (L.getD (L.length - 1 - k) false)).set (L.length - 1 - k) (L.getD k false) = swK L (k + 1) := by
  refine ext_getD (by rw [List.length_set, List.length_set, swK_len, swK_len]) fun i hi => ?_
  rw [List.length_set, List.length_set, swK_len] at hi
  rw [getD_setB, getD_setB, swK_at L (k + 1) hi, swK_at L k hi, List.length_set, swK_len]
  by_cases h1 : L.length - 1 - k = i
  · rw [if_pos ⟨h1, hi⟩, if_pos (by omega), show L.length - 1 - i = k by omega]
  · rw [if_neg (fun x => h1 x.1)]
    by_cases h2 : k = i
    · rw [if_pos ⟨h2, hi⟩, if_pos (by omega), h2]
    · rw [if_neg (fun x => h2 x.1)]
      by_cases h3 : i < k ∨ L.length - 1 - i < k
      · rw [if_pos h3, if_pos (by omega)]
      · rw [if_neg h3, if_neg (by omega)]
theorem swK_end (L : List Bool) : swK L (L.length / 2) = L.reverse := by
  refine ext_getD (by rw [swK_len, List.length_reverse]) fun i hi => ?_
  rw [swK_len] at hi
  rw [swK_at L _ hi, List.getD_eq_getElem?_getD, List.getD_eq_getElem?_getD (l := L.reverse), List.getElem?_reverse hi]
  by_cases h : i < L.length / 2 ∨ L.length - 1 - i < L.length / 2
  · rw [if_pos h]
  · rw [if_neg h, List.getD_eq_getElem?_getD, show L.length - 1 - i = i by omega]
theorem swK_out (L : List Bool) {k : Nat} (h : k < L.length / 2) : (swK L k).getD k false = L.getD k false ∧ (swK L k).getD (L.length - 1 - k) false = L.getD (L.length - 1 - k) false := by
  constructor
  · rw [swK_at L k (by omega), if_neg (by omega)]
  · rw [swK_at L k (by omega), if_neg (by omega)]
set_option maxHeartbeats 8000000 in
set_option maxRecDepth 100000 in
theorem turn_any (A : Option Addr) (c : Nat) (l : List Int) (w : World) (hr : RdI w .u8 A l) (hl : l.length ≤ 17592186044416) (hb : ∀ x ∈ l, 0 ≤ x ∧ x < 256) :
    Calls Try.prog 25 #[.slice A l.length c] w fun e w' => (∃ g, e = .returned (.slice (some ⟨g, 0, none⟩) l.length l.length) ∧ w'.ownsRow w.heap.size 5 1 (.slice (some ⟨g, 0, none⟩) l.length l.length) l.length (bv (turnB l))) ∧ Below w.heap.size w w' := by
  have hU := fun W hW => unpack_any A c l W hW hl hb
  have hlen := unpackB_len l
  obtain ⟨n, hn⟩ : ∃ n, 8 * l.length = n := ⟨_, rfl⟩
  rw [hn] at hU hlen
  have hn9 : n ≤ 140737488355328 := by omega
  have hP := fun A' c' W h => pack_len A' c' n (unpackB l).reverse W (by rw [List.length_reverse, hlen]) h (by omega)
  rw [show (n + 7) / 8 = l.length by omega, show packB (unpackB l).reverse = turnB l from rfl] at hP
  have hU2 : ∀ W, RdI W .u8 A l → Calls Try.prog 67 #[.slice A l.length c] W fun e w' => e = .returned (.slice (some ⟨W.heap.size, 0, none⟩) n n) ∧ w'.ownsRow W.heap.size 4 1 (.slice (some ⟨W.heap.size, 0, none⟩) n n) n (blv (swK (unpackB l) 0)) ∧ Below W.heap.size W w' := by rw [swK_zero]; exact hU
  have hE0 := swK_end (unpackB l)
  generalize unpackB l = L at *
  generalize L.reverse = R at *
  have HLn := Lib.hid hlen
  have HE := Lib.hid hE0
  have e1 : IntKind.i64.wrap ((n : Int) - 1) = (n : Int) - 1 := IntWalk.i64_in _ (by omega)
  have e2 : (n : Int) / 2 = ((n / 2 : Nat) : Int) := by omega
  obtain ⟨h2, hh⟩ : ∃ h2, n / 2 = h2 := ⟨_, rfl⟩
  rw [hh] at e2
  have HH := Lib.hid hh
  clear hn hlen hU hE0 hh hb
  go_enter Try.func25, Try.ntmps25
  go_wp2_with (go_at_call 67; (with_reducible refine (hU2 _ hr).mono ?_); rintro e w3 ⟨rfl, ho3, hb3⟩)
  go_loopw [5, 14] (fun _ i wr => ∃ k : Nat, k ≤ h2 ∧ i = .int .i64 k ∧ wr.ownsRow w.heap.size 4 1 (.slice (some ⟨w.heap.size, 0, none⟩) n n) n (blv (swK L k)) ∧ Below w.heap.size w wr) (fun _ i _ => h2 - (intOf i).toNat)
  case atStart => exact ⟨0, Nat.zero_le _, rfl, ho3, hb3⟩
  case round =>
    obtain ⟨k, hk, rfl, ho, hbl⟩ := hrel
    by_cases hlt : k < h2
    · have hkn : k < n := by have := HH.out; omega
      obtain ⟨j, hj⟩ : ∃ j, n - 1 - k = j := ⟨_, rfl⟩
      have hjn : j < n := by omega
      have hkL : k < L.length / 2 := by rw [HLn.out, HH.out]; exact hlt
      obtain ⟨o1, o2⟩ := swK_out L hkL
      have HS := swK_step L hkL
      rw [HLn.out, hj] at o2 HS
      have c1 := ho.cellAt k (by omega)
      have c2 := ho.cellAt j (by omega)
      rw [blv_at (by rw [swK_len, HLn.out]; exact hkn), o1] at c1
      rw [blv_at (by rw [swK_len, HLn.out]; exact hjn), o2] at c2
      have f1 := ho.frozenAt k
      have f2 := ho.frozenAt j
      obtain ⟨x, hx⟩ : ∃ x, L.getD k false = x := ⟨_, rfl⟩
      obtain ⟨y, hy⟩ : ∃ y, L.getD j false = y := ⟨_, rfl⟩
      rw [hx] at c1 HS
      rw [hy] at c2 HS
      have HO1 := ho.stored k (.bool y)
      have HO2 := Lib.hid (HO1.1.stored j (.bool x))
      have f3 := HO1.1.frozenAt j
      have hjk : j ≠ k := by omega
      have HSt := Lib.hid HS
      have e3 : IntKind.i64.wrap ((n : Int) - 1 - (k : Int)) = (j : Int) := by rw [IntKind.wrap_i64]; omega
      have k0 : (0 : Int) ≤ (k : Int) := by omega
      have k1 : (k : Int) < (n : Int) := by omega
      have j0 : (0 : Int) ≤ (j : Int) := by omega
      have j1 : (j : Int) < (n : Int) := by omega
      clear hj hx hy o1 o2 HS HO1 hkL ho3 hb3
      go_wp2
      refine wp_region_held_drew (S := fun _ => True) (by kernel_rfl) trivial (fun hHeld => ?_)
      refine wpAnyH_take (i := 0) (oi := ?_) (v := ?_) ?hiu1 (by as_aux_lemma => kernel_rfl) (by as_aux_lemma => kernel_rfl) (by as_aux_lemma => kernel_rfl) ?hQu1 (Or.inl ⟨?hwu1, ?hyu1⟩) hHeld ?restu1
      case hiu1 => simp only [List.getElem?_toArray, List.getElem?_cons_zero, List.getElem?_cons_succ]; rfl
      case hwu1 => rfl
      case hyu1 => (intro w9 hSw; (try dsimp only at hSw); go_simp; (try with_reducible rfl))
      case hQu1 => exact fun _ _ _ h => h
      (try simp only [Act.put, List.setIfInBounds_toArray, List.set_cons_zero, List.set_cons_succ])
      refine wpAnyH_take (i := 1) (oi := ?_) (v := ?_) ?hiu2 (by as_aux_lemma => kernel_rfl) (by as_aux_lemma => kernel_rfl) (by as_aux_lemma => kernel_rfl) ?hQu2 (Or.inl ⟨?hwu2, ?hyu2⟩) hHeld ?restu2
      case hiu2 => simp only [List.getElem?_toArray, List.getElem?_cons_zero, List.getElem?_cons_succ]; rfl
      case hwu2 => rfl
      case hyu2 => (intro w9 hSw; (try dsimp only at hSw); go_simp; (try with_reducible rfl))
      case hQu2 => exact fun _ _ _ h => h
      (try simp only [Act.put, List.setIfInBounds_toArray, List.set_cons_zero, List.set_cons_succ])
      refine wpAnyH_take (i := 2) (oi := ?_) (v := ?_) ?hiu3 (by as_aux_lemma => kernel_rfl) (by as_aux_lemma => kernel_rfl) (by as_aux_lemma => kernel_rfl) ?hQu3 (Or.inl ⟨?hwu3, ?hyu3⟩) hHeld ?restu3
      case hiu3 => simp only [List.getElem?_toArray, List.getElem?_cons_zero, List.getElem?_cons_succ]; rfl
      case hwu3 => rfl
      case hyu3 => (intro w9 hSw; (try dsimp only at hSw); go_simp; (try with_reducible rfl))
      case hQu3 => exact fun _ _ _ h => h
      (try simp only [Act.put, List.setIfInBounds_toArray, List.set_cons_zero, List.set_cons_succ])
      refine wpAnyH_take (i := 3) (oi := ?_) (v := ?_) ?hiu4 (by as_aux_lemma => kernel_rfl) (by as_aux_lemma => kernel_rfl) (by as_aux_lemma => kernel_rfl) ?hQu4 (Or.inl ⟨?hwu4, ?hyu4⟩) hHeld ?restu4
      case hiu4 => simp only [List.getElem?_toArray, List.getElem?_cons_zero, List.getElem?_cons_succ]; rfl
      case hwu4 => rfl
      case hyu4 => (intro w9 hSw; (try dsimp only at hSw); go_simp; (try with_reducible rfl))
      case hQu4 => exact fun _ _ _ h => h
      (try simp only [Act.put, List.setIfInBounds_toArray, List.set_cons_zero, List.set_cons_succ])
      refine wpAnyH_take (i := 4) (oi := ?_) (v := ?_) ?hiu5 (by as_aux_lemma => kernel_rfl) (by as_aux_lemma => kernel_rfl) (by as_aux_lemma => kernel_rfl) ?hQu5 (Or.inl ⟨?hwu5, ?hyu5⟩) hHeld ?restu5
      case hiu5 => simp only [List.getElem?_toArray, List.getElem?_cons_zero, List.getElem?_cons_succ]; rfl
      case hwu5 => rfl
      case hyu5 => (intro w9 hSw; (try dsimp only at hSw); go_simp; (try with_reducible rfl))
      case hQu5 => exact fun _ _ _ h => h
      (try simp only [Act.put, List.setIfInBounds_toArray, List.set_cons_zero, List.set_cons_succ])
      refine wpAnyH_take (i := 5) (oi := ?_) (v := ?_) ?hiu6 (by as_aux_lemma => kernel_rfl) (by as_aux_lemma => kernel_rfl) (by as_aux_lemma => kernel_rfl) ?hQu6 (Or.inl ⟨?hwu6, ?hyu6⟩) hHeld ?restu6
      case hiu6 => simp only [List.getElem?_toArray, List.getElem?_cons_zero, List.getElem?_cons_succ]; rfl
      case hwu6 => rfl
      case hyu6 => (intro w9 hSw; (try dsimp only at hSw); go_simp; (try with_reducible rfl))
      case hQu6 => exact fun _ _ _ h => h
      (try simp only [Act.put, List.setIfInBounds_toArray, List.set_cons_zero, List.set_cons_succ])
      refine wpAnyH_take (i := 6) (oi := ?_) (v := ?_) ?hiu7 (by as_aux_lemma => kernel_rfl) (by as_aux_lemma => kernel_rfl) (by as_aux_lemma => kernel_rfl) ?hQu7 (Or.inl ⟨?hwu7, ?hyu7⟩) hHeld ?restu7
      case hiu7 => simp only [List.getElem?_toArray, List.getElem?_cons_zero, List.getElem?_cons_succ]; rfl
      case hwu7 => rfl
      case hyu7 => (intro w9 hSw; (try dsimp only at hSw); go_simp; (try with_reducible rfl))
      case hQu7 => exact fun _ _ _ h => h
      (try simp only [Act.put, List.setIfInBounds_toArray, List.set_cons_zero, List.set_cons_succ])
      refine wpAnyH_take (i := 7) (oi := ?_) (v := ?_) ?hiu8 (by as_aux_lemma => kernel_rfl) (by as_aux_lemma => kernel_rfl) (by as_aux_lemma => kernel_rfl) ?hQu8 (Or.inl ⟨?hwu8, ?hyu8⟩) hHeld ?restu8
      case hiu8 => simp only [List.getElem?_toArray, List.getElem?_cons_zero, List.getElem?_cons_succ]; rfl
      case hwu8 => rfl
      case hyu8 => (intro w9 hSw; (try dsimp only at hSw); go_simp; (try with_reducible rfl))
      case hQu8 => exact fun _ _ _ h => h
      (try simp only [Act.put, List.setIfInBounds_toArray, List.set_cons_zero, List.set_cons_succ])
      refine wpAnyH_take (i := 8) (oi := ?_) (v := ?_) ?hiu9 (by as_aux_lemma => kernel_rfl) (by as_aux_lemma => kernel_rfl) (by as_aux_lemma => kernel_rfl) ?hQu9 (Or.inl ⟨?hwu9, ?hyu9⟩) hHeld ?restu9
      case hiu9 => simp only [List.getElem?_toArray, List.getElem?_cons_zero, List.getElem?_cons_succ]; rfl
      case hwu9 => rfl
      case hyu9 => (intro w9 hSw; (try dsimp only at hSw); go_simp; (try with_reducible rfl))
      case hQu9 => exact fun _ _ _ h => h
      (try simp only [Act.put, List.setIfInBounds_toArray, List.set_cons_zero, List.set_cons_succ])
      refine wpAnyH_take (i := 9) (oi := ?_) (v := ?_) ?hiu10 (by as_aux_lemma => kernel_rfl) (by as_aux_lemma => kernel_rfl) (by as_aux_lemma => kernel_rfl) ?hQu10 (Or.inl ⟨?hwu10, ?hyu10⟩) hHeld ?restu10
      case hiu10 => simp only [List.getElem?_toArray, List.getElem?_cons_zero, List.getElem?_cons_succ]; rfl
      case hwu10 => rfl
      case hyu10 => (intro w9 hSw; (try dsimp only at hSw); go_simp; (try with_reducible rfl))
      case hQu10 => exact fun _ _ _ h => h
      (try simp only [Act.put, List.setIfInBounds_toArray, List.set_cons_zero, List.set_cons_succ])
      refine wpAnyH_take (i := 10) (oi := ?_) (v := ?_) ?hiu11 (by as_aux_lemma => kernel_rfl) (by as_aux_lemma => kernel_rfl) (by as_aux_lemma => kernel_rfl) ?hQu11 (Or.inl ⟨?hwu11, ?hyu11⟩) hHeld ?restu11
      case hiu11 => simp only [List.getElem?_toArray, List.getElem?_cons_zero, List.getElem?_cons_succ]; rfl
      case hwu11 => rfl
      case hyu11 => (intro w9 hSw; (try dsimp only at hSw); go_simp; (try with_reducible rfl))
      case hQu11 => exact fun _ _ _ h => h
      (try simp only [Act.put, List.setIfInBounds_toArray, List.set_cons_zero, List.set_cons_succ])
      refine wpAnyH_take (i := 12) (oi := ?_) (v := ?_) ?hiu12 (by as_aux_lemma => kernel_rfl) (by as_aux_lemma => kernel_rfl) (by as_aux_lemma => kernel_rfl) ?hQu12 (Or.inl ⟨?hwu12, ?hyu12⟩) hHeld ?restu12
      case hiu12 => simp only [List.getElem?_toArray, List.getElem?_cons_zero, List.getElem?_cons_succ]; rfl
      case hwu12 => rfl
      case hyu12 => (intro w9 hSw; (try dsimp only at hSw); go_simp; (try with_reducible rfl))
      case hQu12 => exact fun _ _ _ h => h
      (try simp only [Act.put, List.setIfInBounds_toArray, List.set_cons_zero, List.set_cons_succ])
      refine wpAnyH_take (i := 13) (oi := ?_) (v := ?_) ?hiu13 (by as_aux_lemma => kernel_rfl) (by as_aux_lemma => kernel_rfl) (by as_aux_lemma => kernel_rfl) ?hQu13 (Or.inl ⟨?hwu13, ?hyu13⟩) hHeld ?restu13
      case hiu13 => simp only [List.getElem?_toArray, List.getElem?_cons_zero, List.getElem?_cons_succ]; rfl
      case hwu13 => rfl
      case hyu13 => (intro w9 hSw; (try dsimp only at hSw); go_simp; (try with_reducible rfl))
      case hQu13 => exact fun _ _ _ h => h
      (try simp only [Act.put, List.setIfInBounds_toArray, List.set_cons_zero, List.set_cons_succ])
      refine wpAnyH_take (i := 14) (oi := ?_) (v := ?_) ?hiu14 (by as_aux_lemma => kernel_rfl) (by as_aux_lemma => kernel_rfl) (by as_aux_lemma => kernel_rfl) ?hQu14 (Or.inl ⟨?hwu14, ?hyu14⟩) hHeld ?restu14
      case hiu14 => simp only [List.getElem?_toArray, List.getElem?_cons_zero, List.getElem?_cons_succ]; rfl
      case hwu14 => rfl
      case hyu14 => (intro w9 hSw; (try dsimp only at hSw); go_simp; (try with_reducible rfl))
      case hQu14 => exact fun _ _ _ h => h
      (try simp only [Act.put, List.setIfInBounds_toArray, List.set_cons_zero, List.set_cons_succ])
      refine wpAnyH_ready (rs := [11, 15]) (by as_aux_lemma => kernel_rfl) (by simp) (AllReadyH.cons (o := ?_) ?hiu25 (fun K hK => ?s1u25) (AllReadyH.cons (o := ?_) ?hju25 (fun K hK => ?s2u25) AllReadyH.nil))
      case hiu25 => simp only [List.getElem?_toArray, List.getElem?_cons_zero, List.getElem?_cons_succ]; rfl
      case hju25 => simp only [List.getElem?_toArray, List.getElem?_cons_zero, List.getElem?_cons_succ]; rfl
      case s1u25 =>
        go_simp
        refine hK.out _ _ ?_ (fun hHeld => ?_)
        · trivial
        clear hK K
        (try simp only [Act.put, List.setIfInBounds_toArray, List.set_cons_zero, List.set_cons_succ])
        refine wpAnyH_ready (rs := [15]) (by as_aux_lemma => kernel_rfl) (by simp) (AllReadyH.cons (o := ?_) ?hiu15 (fun K hK => ?_) AllReadyH.nil)
        case hiu15 => simp only [List.getElem?_toArray, List.getElem?_cons_zero, List.getElem?_cons_succ]; rfl
        go_simp
        refine hK.out _ _ ?_ (fun hHeld => ?_)
        · trivial
        clear hK K
        (try simp only [Act.put, List.setIfInBounds_toArray, List.set_cons_zero, List.set_cons_succ])
        refine wpAnyH_take (i := 16) (oi := ?_) (v := ?_) ?hiu16 (by as_aux_lemma => kernel_rfl) (by as_aux_lemma => kernel_rfl) (by as_aux_lemma => kernel_rfl) ?hQu16 (Or.inl ⟨?hwu16, ?hyu16⟩) hHeld ?restu16
        case hiu16 => simp only [List.getElem?_toArray, List.getElem?_cons_zero, List.getElem?_cons_succ]; rfl
        case hwu16 => rfl
        case hyu16 => (intro w9 hSw; (try dsimp only at hSw); go_simp; (try with_reducible rfl))
        case hQu16 => exact fun _ _ _ h => h
        (try simp only [Act.put, List.setIfInBounds_toArray, List.set_cons_zero, List.set_cons_succ])
        refine wpAnyH_ready (rs := [17]) (by as_aux_lemma => kernel_rfl) (by simp) (AllReadyH.cons (o := ?_) ?hiu17 (fun K hK => ?_) AllReadyH.nil)
        case hiu17 => simp only [List.getElem?_toArray, List.getElem?_cons_zero, List.getElem?_cons_succ]; rfl
        go_simp
        refine hK.out _ _ ?_ (fun hHeld => ?_)
        · trivial
        clear hK K
        (try simp only [Act.put, List.setIfInBounds_toArray, List.set_cons_zero, List.set_cons_succ])
        refine wpAnyH_take (i := 18) (oi := ?_) (v := ?_) ?hiu18 (by as_aux_lemma => kernel_rfl) (by as_aux_lemma => kernel_rfl) (by as_aux_lemma => kernel_rfl) ?hQu18 (Or.inl ⟨?hwu18, ?hyu18⟩) hHeld ?restu18
        case hiu18 => simp only [List.getElem?_toArray, List.getElem?_cons_zero, List.getElem?_cons_succ]; rfl
        case hwu18 => rfl
        case hyu18 => (intro w9 hSw; (try dsimp only at hSw); go_simp; (try with_reducible rfl))
        case hQu18 => exact fun _ _ _ h => h
        (try simp only [Act.put, List.setIfInBounds_toArray, List.set_cons_zero, List.set_cons_succ])
        refine wpAnyH_ready (rs := [19]) (by as_aux_lemma => kernel_rfl) (by simp) (AllReadyH.cons (o := ?_) ?hiu19 (fun K hK => ?_) AllReadyH.nil)
        case hiu19 => simp only [List.getElem?_toArray, List.getElem?_cons_zero, List.getElem?_cons_succ]; rfl
        go_simp
        refine hK.out _ _ ?_ (fun hHeld => ?_)
        · trivial
        clear hK K
        (try simp only [Act.put, List.setIfInBounds_toArray, List.set_cons_zero, List.set_cons_succ])
        refine wpAnyH_done (by as_aux_lemma => kernel_rfl) ?_ _
        clear hHeld c1 c2 f1 f2 f3
        go_wp2
        go_roundw
        case rel => exact ⟨k + 1, by omega, by go_num, by have h := HO2.out.1; rw [blv_set, blv_set, HSt.out] at h; exact h, bD (bS (bS hbl (Nat.le_refl _)) (Nat.le_refl _))⟩
        case measure => simp [intOf]; omega
      case s2u25 =>
        go_simp
        refine hK.out _ _ ?_ (fun hHeld => ?_)
        · trivial
        clear hK K
        (try simp only [Act.put, List.setIfInBounds_toArray, List.set_cons_zero, List.set_cons_succ])
        refine wpAnyH_ready (rs := [11]) (by as_aux_lemma => kernel_rfl) (by simp) (AllReadyH.cons (o := ?_) ?hiu20 (fun K hK => ?_) AllReadyH.nil)
        case hiu20 => simp only [List.getElem?_toArray, List.getElem?_cons_zero, List.getElem?_cons_succ]; rfl
        go_simp
        refine hK.out _ _ ?_ (fun hHeld => ?_)
        · trivial
        clear hK K
        (try simp only [Act.put, List.setIfInBounds_toArray, List.set_cons_zero, List.set_cons_succ])
        refine wpAnyH_take (i := 16) (oi := ?_) (v := ?_) ?hiu21 (by as_aux_lemma => kernel_rfl) (by as_aux_lemma => kernel_rfl) (by as_aux_lemma => kernel_rfl) ?hQu21 (Or.inl ⟨?hwu21, ?hyu21⟩) hHeld ?restu21
        case hiu21 => simp only [List.getElem?_toArray, List.getElem?_cons_zero, List.getElem?_cons_succ]; rfl
        case hwu21 => rfl
        case hyu21 => (intro w9 hSw; (try dsimp only at hSw); go_simp; (try with_reducible rfl))
        case hQu21 => exact fun _ _ _ h => h
        (try simp only [Act.put, List.setIfInBounds_toArray, List.set_cons_zero, List.set_cons_succ])
        refine wpAnyH_ready (rs := [17]) (by as_aux_lemma => kernel_rfl) (by simp) (AllReadyH.cons (o := ?_) ?hiu22 (fun K hK => ?_) AllReadyH.nil)
        case hiu22 => simp only [List.getElem?_toArray, List.getElem?_cons_zero, List.getElem?_cons_succ]; rfl
        go_simp
        refine hK.out _ _ ?_ (fun hHeld => ?_)
        · trivial
        clear hK K
        (try simp only [Act.put, List.setIfInBounds_toArray, List.set_cons_zero, List.set_cons_succ])
        refine wpAnyH_take (i := 18) (oi := ?_) (v := ?_) ?hiu23 (by as_aux_lemma => kernel_rfl) (by as_aux_lemma => kernel_rfl) (by as_aux_lemma => kernel_rfl) ?hQu23 (Or.inl ⟨?hwu23, ?hyu23⟩) hHeld ?restu23
        case hiu23 => simp only [List.getElem?_toArray, List.getElem?_cons_zero, List.getElem?_cons_succ]; rfl
        case hwu23 => rfl
        case hyu23 => (intro w9 hSw; (try dsimp only at hSw); go_simp; (try with_reducible rfl))
        case hQu23 => exact fun _ _ _ h => h
        (try simp only [Act.put, List.setIfInBounds_toArray, List.set_cons_zero, List.set_cons_succ])
        refine wpAnyH_ready (rs := [19]) (by as_aux_lemma => kernel_rfl) (by simp) (AllReadyH.cons (o := ?_) ?hiu24 (fun K hK => ?_) AllReadyH.nil)
        case hiu24 => simp only [List.getElem?_toArray, List.getElem?_cons_zero, List.getElem?_cons_succ]; rfl
        go_simp
        refine hK.out _ _ ?_ (fun hHeld => ?_)
        · trivial
        clear hK K
        (try simp only [Act.put, List.setIfInBounds_toArray, List.set_cons_zero, List.set_cons_succ])
        refine wpAnyH_done (by as_aux_lemma => kernel_rfl) ?_ _
        clear hHeld c1 c2 f1 f2 f3
        go_wp2
        go_roundw
        case rel => exact ⟨k + 1, by omega, by go_num, by have h := HO2.out.1; rw [blv_set, blv_set, HSt.out] at h; exact h, bD (bS (bS hbl (Nat.le_refl _)) (Nat.le_refl _))⟩
        case measure => simp [intOf]; omega
    · obtain rfl : k = h2 := by omega
      have HB := Lib.hid hbl
      have ho' := ho
      rw [show swK L k = R by rw [← HH.out, ← HLn.out]; exact HE.out] at ho'
      have hrd : RdB wr (some ⟨w.heap.size, 0, none⟩) R := by
        have hl : R.length = n := by rw [← HE.out, swK_len, HLn.out]
        refine rdB_own (base := w.heap.size) (e := 4) (c := n) ?_
        rw [hl]; exact ho'
      clear ho ho' ho3 hb3 hbl
      go_wp2_with (go_at_call 68; (with_reducible refine (hP _ _ _ hrd).mono ?_); rintro e w6 ⟨⟨g6, rfl, ho6⟩, hb6⟩)
      go_ret
      exact ⟨⟨g6, rfl, own_base ho6 HB.out.size⟩, bT HB.out hb6⟩
end Go.Proofs.Ytachkhjbckapoaa

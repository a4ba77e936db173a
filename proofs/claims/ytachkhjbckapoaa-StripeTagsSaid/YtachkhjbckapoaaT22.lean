/- Layer 11: what track.Put computes. No condition. -/
import Derived.Test.YtachkhjbckapoaaT19
import Derived.Test.YtachkhjbckapoaaT20
import Derived.Test.YtachkhjbckapoaaT21
namespace Go.Proofs.Ytachkhjbckapoaa
open Go.RowKit
set_option linter.unusedVariables false
set_option maxRecDepth 100000
set_option linter.unusedSimpArgs false

/-- The values of a track, but for the check value. -/
def tvals (d : List Int) : List Int := 11 :: d ++ [15]
def tall (d : List Int) : List Int := tvals d ++ [xorL 0 (tvals d)]
def tflat (l : List Int) : List Bool := l.flatMap vbits
def trackPut (d : List Int) : List Int × Int := if 77 < d.length then ([], 21) else if d.any (fun x => decide (9 < x)) then ([], 7) else (packB (tflat (tall d)), 0)
theorem tflat_len (l : List Int) : (tflat l).length = 5 * l.length := by
  induction l with
  | nil => rfl
  | cons x t ih => simp only [tflat, List.flatMap_cons, List.length_append, vbits_len, List.length_cons] at ih ⊢; omega
theorem tflat_snoc (l : List Int) {k : Nat} (h : k < l.length) : tflat (l.take (k + 1)) = tflat (l.take k) ++ vbits (l.getD k 0) := by
  rw [List.take_succ_eq_append_getElem h, List.getD_eq_getElem?_getD, List.getElem?_eq_getElem h]
  unfold tflat
  rw [List.flatMap_append]
  simp
theorem infoInt : (Try.prog.info? 3).map (fun i => (i.zero, i.size, i.bytes)) = some (some (.int .i64 0), 1, 8) := by kernel_rfl
theorem infoBool : (Try.prog.info? 4).map (fun i => (i.zero, i.size, i.bytes)) = some (some (.bool false), 1, 1) := by kernel_rfl
theorem row_cells {w : World} {g : Nat} {l : List Value} {t : TypeId} (h : w.heap[g]? = some (.cells l.toArray t (0, 0))) : ∀ j u, l[j]? = some u → w.cell? ((⟨g, 0, none⟩ : Addr).add j) = some u := by
  intro j u hj
  have e : (⟨g, 0, none⟩ : Addr).add j = ⟨g, j, none⟩ := by unfold Addr.add; by_cases h : j = 0 <;> simp [h]
  rw [e, cell_of_row w g j _ _ _ h]
  simpa using hj
theorem packB_len (l : List Bool) : (packB l).length = (l.length + 7) / 8 := packN_len _ _
set_option maxHeartbeats 4000000 in
theorem tput_long (A : Option Addr) (c : Nat) (l : List Int) (w : World) (hl : 77 < l.length) :
    Calls Try.prog 63 #[.slice A l.length c] w (ByteRetE (trackPut l) w) := by
  have E := Lib.hid (show trackPut l = ([], 21) by unfold trackPut; rw [if_pos hl])
  have d : (77 : Int) < (l.length : Int) := by omega
  go_enter Try.func63, Try.ntmps63
  go_wp2
  go_ret2
  exact ⟨_, by rw [E.out] <;> rfl, by rw [E.out]; exact World.ownsRow_nil _ _ _ _, Below.refl _ _⟩
set_option maxHeartbeats 4000000 in
theorem tput_ok (A : Option Addr) (c : Nat) (l : List Int) (w : World) (hr : RdI w .u8 A l) (hl : ¬ 77 < l.length) (hb : ∀ x ∈ l, 0 ≤ x ∧ x < 256) :
    Calls Try.prog 63 #[.slice A l.length c] w (ByteRetE (trackPut l) w) := by
  obtain ⟨i0, hi, hz0, hz1, hz2⟩ := info_parts infoInt
  obtain ⟨i1, hj, hy0, hy1, hy2⟩ := info_parts infoBool
  have d : ¬ (77 : Int) < (l.length : Int) := by omega
  have HLN := Lib.hid hl
  clear hl
  have hown0 := own_lit1 w .i64 11 3
  have hb0 := bel1 w (.cells #[.int .i64 11] 3)
  go_enter Try.func63, Try.ntmps63
  go_wp2
  go_loopw [4, 6, 18] (fun v _ i wr => ∃ (k : Nat) (acc : List Int), k ≤ l.length ∧ i = .int .i64 k ∧ wr.ownsRow w.heap.size 3 1 v acc.length (acc.map (.int .i64)) ∧ Hid (acc = 11 :: l.take k) ∧ Hid (∀ x ∈ l.take k, x ≤ 9) ∧ acc.length = k + 1 ∧ Below w.heap.size w wr) (fun _ _ i _ => l.length - (intOf i).toNat)
  case atStart => exact ⟨0, [11], Nat.zero_le _, rfl, hown0, Lib.hid rfl, Lib.hid (by simp), rfl, hb0⟩
  case round =>
    obtain ⟨k, acc, hk, rfl, ho, hac, hq, hal, hbl⟩ := hrel
    by_cases hlt : k < l.length
    · obtain ⟨ad, rfl, q0⟩ := (hr.below hbl).at_ hlt
      have hx := hb _ (getD_mem hlt)
      have hxm := getD_mem hlt
      have HT := Lib.hid (List.take_succ_eq_append_getElem hlt)
      have HX := Lib.hid (show l.getD k 0 = l[k] by simp [List.getD_eq_getElem?_getD, hlt])
      generalize l.getD k 0 = x at *
      by_cases h9 : (9 : Int) < x
      · have E := Lib.hid (show trackPut l = ([], 7) by unfold trackPut; rw [if_neg HLN.out, if_pos (List.any_eq_true.2 ⟨x, hxm, by simpa using h9⟩)])
        clear hxm
        go_wp2
        go_ret2
        exact ⟨_, by rw [E.out] <;> rfl, by rw [E.out]; exact World.ownsRow_nil _ _ _ _, hbl⟩
      · have hw : IntKind.i64.wrap x = x := by rw [IntKind.wrap_i64]; omega
        have hkl := HLN.out
        have hsz := hbl.size
        clear hxm
        go_wp2_with (at_builtin; refine wpL_app (k := .i64) rfl _ _ 97 rfl w.heap.size 3 i0 (.int .i64 0) 8 Try.underlying97 hi hz0 hz1 hz2 rfl _ acc rfl (ho.alloc _) _ _ [x] rfl (RdI.lit1 _ _ _ _) ?_ ?_ ?_ ?_; (focus (simp only [List.length_append, List.length_cons, List.length_nil]; exact maxLen_ge (by omega))); (focus (simp only [List.length_append, List.length_cons, List.length_nil]; omega)); (focus (simp; omega)); intro v2 w2 ho3 hg2 _)
        have hb2 := bG (bA hbl _) hg2 (own_ge ho)
        have HT2 := Lib.hid (show acc ++ [x] = 11 :: l.take (k + 1) by rw [hac.out, HT.out, ← HX.out]; rfl)
        have HQ2 := Lib.hid (show ∀ y ∈ l.take (k + 1), y ≤ 9 by
          intro y hy
          rw [HT.out, ← HX.out] at hy
          rcases List.mem_append.1 hy with hy | hy
          · exact hq.out y hy
          · obtain rfl := List.mem_singleton.1 hy; omega)
        go_roundw
        case rel => exact ⟨k + 1, _, by omega, by go_num, ho3, HT2, HQ2, by simp; omega, hb2⟩
        case measure => simp [intOf]; omega
    · obtain rfl : k = l.length := by omega
      have hac2 := hac.out
      have hq2 := hq.out
      rw [List.take_length] at hac2 hq2
      subst hac2
      have E := Lib.hid (show trackPut l = (packB (tflat (tall l)), 0) by
        unfold trackPut
        rw [if_neg HLN.out, if_neg (fun h => by
          obtain ⟨x, hx, h9⟩ := List.any_eq_true.1 h
          have := hq2 x hx
          simp only [decide_eq_true_eq] at h9
          omega)])
      have hv15 : ∀ v ∈ tvals l, 0 ≤ v ∧ v ≤ 15 := by
        intro v hv
        unfold tvals at hv
        rcases List.mem_append.1 hv with hv | hv
        · rcases List.mem_cons.1 hv with rfl | hv
          · omega
          · have := hq2 v hv; have := hb v hv; omega
        · obtain rfl := List.mem_singleton.1 hv; omega
      have htv : (11 :: l) ++ [15] = tvals l := rfl
      have hkl := HLN.out
      have HV := Lib.hid hv15
      have hxb := xorL_15 (tvals l) 0 (by omega) hv15
      obtain ⟨sx, hsx⟩ : ∃ sx, xorL 0 (tvals l) = sx := ⟨_, rfl⟩
      have hta : tvals l ++ [sx] = tall l := by rw [← hsx]; rfl
      have htl : (tvals l).length = l.length + 2 := by unfold tvals; simp
      have hSm := fun A c W h => psum_any A c (tvals l) W h (by rw [htl]; omega) hv15
      rw [hsx] at hSm hxb
      have HSX := Lib.hid hsx
      have HTL := Lib.hid htl
      clear htl
      have hall : ∀ v ∈ tall l, 0 ≤ v ∧ v ≤ 15 := by
        intro v hv
        rw [← hta] at hv
        rcases List.mem_append.1 hv with hv | hv
        · exact hv15 v hv
        · obtain rfl := List.mem_singleton.1 hv; exact hxb
      have HALL := Lib.hid hall
      have hsz := hbl.size
      clear hown0 hb0 hac hq hq2 hv15 hall hsx
      generalize tvals l = T at *
      go_wp2_with (first | (at_builtin; refine wpL_app (k := .i64) rfl _ _ 97 rfl w.heap.size 3 i0 (.int .i64 0) 8 Try.underlying97 hi hz0 hz1 hz2 rfl _ (11 :: l) rfl (ho.alloc _) _ _ [15] rfl (RdI.lit1 _ _ _ _) ?_ ?_ ?_ ?_; (focus (simp only [List.length_append, List.length_cons, List.length_nil]; exact maxLen_ge (by omega))); (focus (simp only [List.length_append, List.length_cons, List.length_nil]; omega)); (focus (simp; omega)); intro v2 w2 ho3 hg2 _; rw [htv] at ho3; have hb2 := bG (bA hbl _) hg2 (own_ge ho); obtain ⟨A2, c2, rfl, _, _⟩ := own_slice ho3; have hrd := RdI.of_own ho3; clear ho) | (go_at_call 105; (with_reducible refine (hSm A2 c2 _ hrd).mono ?_); rintro e w4 ⟨rfl, hb4⟩; have ho4 := own_below ho3 hb4; have hb5 := bT hb2 hb4; have hsz4 := hb5.size; clear hrd) | (at_builtin; refine wpL_app (k := .i64) rfl _ _ 97 rfl w.heap.size 3 i0 (.int .i64 0) 8 Try.underlying97 hi hz0 hz1 hz2 rfl _ T rfl (ho4.alloc _) _ _ [sx] rfl (RdI.lit1 _ _ _ _) ?_ ?_ ?_ ?_; (focus (simp only [List.length_append, List.length_cons, List.length_nil]; have := HTL.out; exact maxLen_ge (by omega))); (focus (simp only [List.length_append, List.length_cons, List.length_nil]; have := HTL.out; omega)); (focus (simp; omega)); intro v5 w5 ho5 hg5 _; rw [hta] at ho5; have hb6 := bG (bA hb5 _) hg5 (own_ge ho4); obtain ⟨A6, c6, rfl, _, _⟩ := own_slice ho5; have hrd6 := RdI.of_own ho5; clear ho4))
      have HVL := Lib.hid (show (tall l).length = l.length + 3 by rw [← hta, List.length_append, HTL.out]; rfl)
      have HB6 := Lib.hid hb6
      generalize tall l = V at *
      have hVB : V.length ≤ 80 := by have := HVL.out; omega
      clear ho5 hg5 hb5 hb6 ho3 hg2 hb2 hb4 hbl hta hSm hxb
      go_loopw [9, 11, 43] (fun v _ i wr => ∃ k : Nat, k ≤ V.length ∧ i = .int .i64 k ∧ wr.ownsRow w5.heap.size 4 1 v (tflat (V.take k)).length (blv (tflat (V.take k))) ∧ Below w5.heap.size w5 wr) (fun _ _ i _ => V.length - (intOf i).toNat)
      case atStart => exact ⟨0, Nat.zero_le _, rfl, World.ownsRow_nil _ _ _ _, Below.refl _ _⟩
      case round =>
        obtain ⟨k, hk, rfl, hob, hbq⟩ := hrel
        by_cases hlt : k < V.length
        · obtain ⟨ad6, rfl, q6⟩ := (hrd6.below hbq).at_ hlt
          have hx := HALL.out _ (getD_mem hlt)
          have HT := Lib.hid (tflat_snoc V hlt)
          have hfl : (tflat (V.take k)).length = 5 * k := by rw [tflat_len, List.length_take]; omega
          have HFL := Lib.hid hfl
          clear hfl
          generalize V.getD k 0 = x at *
          have hTB := fun W => tbits_any x W hx.1 hx.2
          have hszq := hbq.size
          go_wp2_with (first | (go_at_call 106; (with_reducible refine (hTB _).mono ?_); rintro e w7 ⟨⟨g, rfl, hg7, hr7⟩, hb7⟩; have hob7 := own_below hob hb7; have hb8 := bT hbq hb7; have hsz8 := hb8.size) | (at_builtin; refine wpList_append_own_at _ rfl _ _ 77 rfl w5.heap.size 4 i1 (.bool false) 1 1 Try.underlying77 hj hy0 hy1 hy2 rfl (by decide) _ (tflat (V.take k)).length (blv (tflat (V.take k))) rfl hob7 ⟨g, 0, none⟩ 5 5 (blv (vbits x)) rfl rfl (row_cells hr7) (blv_one _) ?_ ?_ ?_ ?_; (focus (rw [HFL.out]; have := HVL.out; exact maxLen_ge (by omega))); (focus (rw [HFL.out]; have := HVL.out; omega)); (focus exact hsz8); intro v9 w9 ho9 hg9 _ _))
          have hb9 := bG hb8 hg9 (own_ge hob7)
          have HO9 := Lib.hid (show w9.ownsRow w5.heap.size 4 1 v9 (tflat (V.take (k + 1))).length (blv (tflat (V.take (k + 1)))) by
            rw [HT.out]
            have h := ho9
            rw [show (tflat (V.take k)).length + 5 = (tflat (V.take k) ++ vbits x).length by rw [List.length_append]; rfl, show blv (tflat (V.take k)) ++ blv (vbits x) = blv (tflat (V.take k) ++ vbits x) by simp [blv]] at h
            exact h)
          go_roundw
          case rel => exact ⟨k + 1, by omega, by go_num, HO9.out, hb9⟩
          case measure => simp [intOf]; omega
        · obtain rfl : k = V.length := by omega
          rw [List.take_length] at hob
          obtain ⟨A9, c9, rfl, _, _⟩ := own_slice hob
          have hP := pack_any A9 c9 (tflat V) wr (rdB_own hob) (by rw [tflat_len, HVL.out]; omega)
          have HB9 := Lib.hid (bT HB6.out hbq)
          clear hob
          go_wp2_with (go_at_call 68; (with_reducible refine hP.mono ?_); rintro e w10 ⟨⟨g, rfl, ho10⟩, hb10⟩)
          go_ret2
          refine ⟨.slice (some ⟨g, 0, none⟩) (((tflat V).length + 7) / 8) (((tflat V).length + 7) / 8), by rw [E.out] <;> rfl, ?_, bT HB9.out hb10⟩
          rw [E.out]
          refine own_base ?_ HB9.out.size
          show w10.ownsRow _ _ 1 _ (packB (tflat V)).length _
          rw [packB_len]
          exact ho10
theorem trackPut_any (A : Option Addr) (c : Nat) (l : List Int) (w : World) (hr : RdI w .u8 A l) (hb : ∀ x ∈ l, 0 ≤ x ∧ x < 256) :
    Calls Try.prog 63 #[.slice A l.length c] w (ByteRetE (trackPut l) w) := by
  by_cases h : 77 < l.length
  · exact tput_long A c l w h
  · exact tput_ok A c l w hr h hb
end Go.Proofs.Ytachkhjbckapoaa

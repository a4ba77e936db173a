/- Layers 3 and 19: the tag of bytes under a secret, by the program. Condition: lengths in bounds. No condition. -/
import Derived.Test.YtachkhjbckapoaaT10
namespace Go.Proofs.Ytachkhjbckapoaa
open Go.RowKit
set_option linter.unusedVariables false
set_option maxRecDepth 100000
set_option linter.unusedSimpArgs false

def xorB (x b : Int) : Int := ((x.toNat ^^^ b.toNat : Nat) : Int)
theorem xorB_byte {x b : Int} (hx : 0 ≤ x ∧ x < 256) (hb : 0 ≤ b ∧ b < 256) : 0 ≤ xorB x b ∧ xorB x b < 256 := by
  unfold xorB
  have : x.toNat ^^^ b.toNat < 2 ^ 8 := Nat.xor_lt_two_pow (by omega) (by omega)
  omega
theorem xor8 {x b : Int} (hx : 0 ≤ x ∧ x < 256) (hb : 0 ≤ b ∧ b < 256) : bits .xor .u8 x b = xorB x b := by
  obtain ⟨a, rfl⟩ := Int.eq_ofNat_of_zero_le hx.1
  obtain ⟨c, rfl⟩ := Int.eq_ofNat_of_zero_le hb.1
  have h1 : (BitVec.ofInt 8 (a : Int)).toNat = a := by rw [BitVec.ofInt_natCast, BitVec.toNat_ofNat]; exact Nat.mod_eq_of_lt (by omega)
  have h2 : (BitVec.ofInt 8 (c : Int)).toNat = c := by rw [BitVec.ofInt_natCast, BitVec.toNat_ofNat]; exact Nat.mod_eq_of_lt (by omega)
  have h3 := (xorB_byte hx hb).2
  unfold xorB at h3
  show IntKind.u8.wrap ((BitVec.ofInt 8 (a : Int) ^^^ BitVec.ofInt 8 (c : Int)).toNat : Int) = _
  rw [BitVec.toNat_xor, h1, h2, IntKind.wrap_u8]
  unfold xorB
  simp at h3 ⊢
  omega
/-- A secret as a block of 64 bytes. -/
def keyN (s : List Int) : List Int := (if 64 < s.length then sumN s else s) ++ List.replicate (64 - (if 64 < s.length then sumN s else s).length) 0
def sideN (k : List Int) (b : Int) (t : List Int) : List Int := sumN (k.map (xorB · b) ++ t)
def tagN (s b : List Int) : List Int := sideN (keyN s) 92 (sideN (keyN s) 54 b)
theorem keyN_len (s : List Int) : (keyN s).length = 64 := by
  unfold keyN
  by_cases h : 64 < s.length
  · simp [h, sumN_len]
  · simp [h]; omega
theorem keyN_byte {s : List Int} (h : ∀ x ∈ s, 0 ≤ x ∧ x < 256) : ∀ x ∈ keyN s, 0 ≤ x ∧ x < 256 := by
  intro x hx
  unfold keyN at hx
  rcases List.mem_append.1 hx with hx | hx
  · split at hx
    · exact sumN_byte s x hx
    · exact h x hx
  · rw [List.eq_of_mem_replicate hx]; omega
theorem xmap_byte {k : List Int} {b : Int} (h : ∀ x ∈ k, 0 ≤ x ∧ x < 256) (hb : 0 ≤ b ∧ b < 256) : ∀ x ∈ k.map (xorB · b), 0 ≤ x ∧ x < 256 := by
  intro x hx
  obtain ⟨y, hy, rfl⟩ := List.mem_map.1 hx
  exact xorB_byte (h y hy) hb
theorem tagN_len (s b : List Int) : (tagN s b).length = 32 := sumN_len _
theorem tagN_byte (s b : List Int) : ∀ x ∈ tagN s b, 0 ≤ x ∧ x < 256 := sumN_byte _

/-- append(xs, ys...), xs a full slice that came in: what comes back reads as both. -/
theorem wpL_app_in {P : Program} {w : World} {ops : Array Oper} {rest : List Oper} {o : Oper} {a : Act} {Q : Exit → Act → World → Prop} {k : IntKind} (hgd : o.guard = none) (s x : Operand) (t : TypeId)
    (ho : o.op = .call { callee := .builtin .append, args := #[s, x], argTypes := #[t, t] })
    (e : TypeId) (i : TypeInfo) (z : Value) (bytes : Nat) (ht : P.underlying t = some (.slice e)) (hi : P.info? e = some i) (hz : i.zero = some z)
    (hsize : i.size = 1) (hby : i.bytes = bytes) (hzs : z.cells = #[z])
    (ad : Addr) (xs : List Int) (n : Nat) (hs : a.eval s = .slice (some ad) n n) (hn : xs.length = n) (hrx : RdI w k (some ad) xs)
    (A : Option Addr) (c : Nat) (ys : List Int) (hx : a.eval x = .slice A ys.length c) (hr : RdI w k A ys)
    (h63 : xs.length + ys.length ≤ maxLen) (hbytes : (xs.length + ys.length) * bytes ≤ 140737488355328)
    (h : ∀ A' c' w', RdI w' k A' (xs ++ ys) → (xs ++ ys).length ≤ c' → Below w.heap.size w w' → wpList P ops Q rest (a.put o.dst (.slice A' (xs ++ ys).length c')) w') :
    wpList P ops Q (o :: rest) a w := by
  subst hby
  refine wpList_plain hgd fun K hK => ?_
  have go : ∀ (v : Value) (w' : World), (Builtin.append_ #[t, t] o.type #[.slice (some ad) n n, .slice A ys.length c]).run P w = .ok v w' → K (a.put o.dst v) w' → Oper.wp P o a w K Q := by
    intro v w' hrun hk
    unfold Oper.wp execOp
    simp only [ho, resolve, invoke, builtin, Sem.run_bind, Sem.run_pure, Result.andThen_ok, List.map_toArray, List.map_cons, List.map_nil, hs, hx, hrun]
    exact hk
  by_cases hy : ys = []
  · subst hy
    refine go (.slice (some ad) n n) w ?_ (hK _ _ (by have := h (some ad) n w (by simpa using hrx) (by simp; omega) (Below.refl _ _); simpa [hn] using this))
    cases A <;> simp [Builtin.append_, run_underlying ht, sizeOf, typeInfo, hi, Builtin.lenOf, Builtin.firstCells, storeCells, hsize, loadCells, loadCellsFrom]
  · have hpos : 0 < ys.length := List.length_pos_iff.mpr hy
    obtain ⟨bd, rfl, _⟩ := hr.at_ hpos
    have cx : ∀ j v, (xs.map (Value.int k))[j]? = some v → w.cell? (ad.add j) = some v := by
      intro j v hv
      rw [List.getElem?_map] at hv
      by_cases hj : j < xs.length
      · obtain ⟨ad', e', q⟩ := hrx.at_ hj
        obtain rfl := Option.some.inj e'
        rw [q]; simpa [hj] using hv
      · simp [hj] at hv
    have cy : ∀ j v, (ys.map (Value.int k))[j]? = some v → w.cell? (bd.add j) = some v := by
      intro j v hv
      rw [List.getElem?_map] at hv
      by_cases hj : j < ys.length
      · obtain ⟨ad', e', q⟩ := hr.at_ hj
        obtain rfl := Option.some.inj e'
        rw [q]; simpa [hj] using hv
      · simp [hj] at hv
    have hsmall : n + ys.length ≤ 9223372036854775807 := by simp only [maxLen] at h63; omega
    have hrun := run_append_grow (P := P) w t o.type e i z ht hi hz ad n n (xs.map (.int k)) (by simp [hsize, hn]) cx bd ys.length c (ys.map (.int k)) (by simp [hsize]) cy (by omega) (by omega) (growslice_fits (by omega) (by rw [← hn]; exact hbytes))
    refine go _ _ hrun (hK _ _ ?_)
    have hge := grownCap_ge w (n + ys.length) n e
    have := h (some ⟨w.heap.size, 0, none⟩) (grownCap w (n + ys.length) n e) (w.drew.alloc (.cells ((xs.map (Value.int k)).toArray ++ (ys.map (Value.int k)).toArray ++ Builtin.zeroCells z.cells (grownCap w (n + ys.length) n e - (n + ys.length))) e)) ?_ (by simp; omega) ?_
    · simpa [hn] using this
    · refine .inr ⟨_, rfl, by simp, fun j hj => ?_⟩
      have e1 : (⟨w.heap.size, 0, none⟩ : Addr).add j = ⟨w.heap.size, j, none⟩ := by unfold Addr.add; by_cases h : j = 0 <;> simp [h]
      have hg : (w.drew.alloc (.cells ((xs.map (Value.int k)).toArray ++ (ys.map (Value.int k)).toArray ++ Builtin.zeroCells z.cells (grownCap w (n + ys.length) n e - (n + ys.length))) e)).heap[w.heap.size]? = some (.cells ((xs.map (Value.int k)).toArray ++ (ys.map (Value.int k)).toArray ++ Builtin.zeroCells z.cells (grownCap w (n + ys.length) n e - (n + ys.length))) e (0, 0)) := heap_alloc_new w.drew _
      rw [e1, cell_of_row _ _ j _ _ _ hg, Array.getElem?_append_left (by simpa using hj)]
      rw [List.append_toArray, ← List.map_append, List.getElem?_toArray, List.getElem?_map]
      simp [List.getD_eq_getElem?_getD, List.getElem?_eq_getElem hj]
    · exact (Below.refl _ _).drew.alloc (Nat.le_refl _) _

theorem xmap_at {k : List Int} {b : Int} {t : Nat} (h : t < k.length) : ((k.take t).map (xorB · b) ++ k.drop t).getD t 0 = k.getD t 0 := by
  rw [List.getD_eq_getElem?_getD, List.getElem?_append_right (by simp; omega)]
  simp [List.getD_eq_getElem?_getD]
  congr 2
  omega
theorem xmap_set {k : List Int} {b : Int} {t : Nat} (h : t < k.length) : ((k.take t).map (xorB · b) ++ k.drop t).set t (xorB (k.getD t 0) b) = (k.take (t + 1)).map (xorB · b) ++ k.drop (t + 1) := by
  have e1 : k.take (t + 1) = k.take t ++ [k.getD t 0] := by rw [List.take_succ_eq_append_getElem h]; simp [List.getD_eq_getElem?_getD, h]
  have e3 : k.drop t = k.getD t 0 :: k.drop (t + 1) := drop_cons h
  rw [e1, e3, List.set_append, if_neg (by simp; omega), List.map_append]
  have : t - ((k.take t).map (xorB · b)).length = 0 := by simp; omega
  rw [this, List.set_cons_zero, List.append_assoc]
  rfl
theorem RdI.src {w : World} {k : IntKind} {A : Option Addr} {l : List Int} (h : RdI w k A l) (hp : 0 < l.length) : ∃ ad, A = some ad ∧ ∀ j v, (l.map (Value.int k))[j]? = some v → w.cell? (ad.add j) = some v := by
  obtain ⟨ad, rfl, _⟩ := h.at_ hp
  refine ⟨ad, rfl, fun j v hv => ?_⟩
  rw [List.getElem?_map] at hv
  by_cases hj : j < l.length
  · obtain ⟨ad', e', q⟩ := h.at_ hj
    obtain rfl := Option.some.inj e'
    rw [q]; simpa [hj] using hv
  · simp [hj] at hv
theorem sizeU8 : (Try.prog.info? 5).map (·.size) = some 1 := by kernel_rfl
theorem splice_zero {n : Nat} {l : List Int} (h : l.length ≤ n) : splice (bv (List.replicate n 0)) 0 (bv l) = bv (l ++ List.replicate (n - l.length) 0) := by
  unfold splice
  rw [List.take_zero, List.nil_append, Nat.zero_add, bv_len]
  simp [bv]
theorem infoA64 : (Try.prog.info? 102).map (·.size) = some 64 := by kernel_rfl

theorem sum_len (A : Option Addr) (c n : Nat) (l : List Int) (w : World) (hn : l.length = n) (hr : RdI w .u8 A l) (hl : n ≤ 70368744177664) (hb : ∀ x ∈ l, 0 ≤ x ∧ x < 256) :
    Calls Try.prog 94 #[.slice A n c] w fun e w' => e = .returned (.agg (bv (sumN l)).toArray) ∧ Below w.heap.size w w' := by
  subst hn
  exact sum_any A c l w hr hl hb
set_option maxHeartbeats 4000000 in
theorem macSide_any (k : List Int) (by' : Int) (g : Nat) (A : Option Addr) (c : Nat) (l : List Int) (w : World) (hk : k.length = 64) (hkb : ∀ x ∈ k, 0 ≤ x ∧ x < 256) (hg : w.heap[g]? = some (.cells (bv k).toArray 102 (0, 0))) (hy : 0 ≤ by' ∧ by' < 256) (hr : RdI w .u8 A l) (hl : l.length ≤ 70368744177000) (hb : ∀ x ∈ l, 0 ≤ x ∧ x < 256) :
    Calls Try.prog 93 #[.int .u8 by', .slice A l.length c, .pointer (some ⟨g, 0, none⟩)] w fun e w' => e = .returned (.agg (bv (sideN k by' l)).toArray) ∧ Below w.heap.size w w' := by
  obtain ⟨i0, hi, hz0, hz1, hz2⟩ := info_parts infoB8
  have HK := Lib.hid hk
  have HG := Lib.hid hg
  have hgs : g < w.heap.size := (Array.getElem?_eq_some_iff.1 hg).1
  clear hk hg
  go_enter Try.func93, Try.ntmps93
  go_wp2_with (first | (refine wpList_load_row rfl 102 (.tmp 2) rfl g rfl 102 (bv k).toArray (0, 0) _ (((bel1 w _).block g hgs).trans HG.out) Try.underlying102 rfl ?_ ?_; (focus (rw [List.size_toArray, bv_len, HK.out]; exact infoA64))) | (refine wpList_store_row rfl 102 _ _ rfl (w.heap.size + 1) (bv k).toArray rfl rfl 102 _ (heap_alloc2_new w _ _) ?_ ?_ (all_one (bv_one _)) ?_; (focus (rw [List.size_toArray, bv_len, HK.out]; exact infoA64)); (focus (show 64 = (bv k).toArray.size; rw [List.size_toArray, bv_len, HK.out])); generalize hW1 : World.setRow _ _ _ = w1; have hg1 : w1.heap[w.heap.size + 1]? = some (.cells (bv k).toArray 102 (0, 0)) := (by rw [← hW1]; exact setRow_heap _ _ _ _ _ _ (heap_alloc2_new w _ _)); have hg0 : w1.heap[w.heap.size]? = some (.cells (bv (List.replicate 32 0)).toArray 42 (0, 0)) := (by rw [← hW1]; exact (setRow_other _ _ _ _ (by omega)).trans (heap_alloc2_old w _ _)); have hb1 : Below w.heap.size w w1 := (by rw [← hW1]; exact setRow_below (bA (bel1 w _) _) (by omega)); have hz1 : w1.heap.size = w.heap.size + 1 + 1 := (by rw [← hW1]; simp); clear hW1))
  have HG1 := Lib.hid hg1
  have HG0 := Lib.hid hg0
  have HZ1 := Lib.hid hz1
  have HB1 := Lib.hid hb1
  have hr1 := hr.below hb1
  clear hg1 hg0 hz1
  go_loopw [9] (fun i wr => ∃ t : Nat, t ≤ 64 ∧ i = .int .i64 (t : Int) ∧ Hid (wr.heap[w.heap.size + 1]? = some (.cells (bv ((k.take t).map (xorB · by') ++ k.drop t)).toArray 102 (0, 0))) ∧ Below (w.heap.size + 1) w1 wr) (fun i _ => 64 - (intOf i).toNat)
  case atStart => exact ⟨0, Nat.zero_le _, rfl, Lib.hid (by simpa using HG1.out), Below.refl _ _⟩
  case round =>
    obtain ⟨t, ht, rfl, hgx, hbx⟩ := hrel
    by_cases hlt : t < 64
    · have hlen : ((k.take t).map (xorB · by') ++ k.drop t).length = 64 := by simp; have := HK.out; omega
      have cx := row_bv (j := t) hgx.out (by rw [hlen]; omega)
      rw [show ((k.take t).map (xorB · by') ++ k.drop t).getD t 0 = k.getD t 0 from xmap_at (by rw [HK.out]; omega)] at cx
      have hx := hkb _ (getD_mem (show t < k.length by rw [HK.out]; omega))
      have fz := row_free hgx.out
      have HS := Lib.hid (xmap_set (k := k) (b := by') (t := t) (by rw [HK.out]; omega))
      generalize k.getD t 0 = x at *
      have X := xor8 hx hy
      clear hlen
      go_wp2
      go_roundw
      case rel => exact ⟨t + 1, by omega, by go_num, Lib.hid (by rw [← HS.out]; exact row_bset t (xorB x by') hgx.out), bSg hbx (Nat.le_refl _) _⟩
      case measure => simp [intOf]; omega
    · obtain rfl : t = 64 := by omega
      have hgx' := hgx.out
      rw [List.take_of_length_le (by rw [HK.out]; exact Nat.le_refl _), List.drop_eq_nil_of_le (by rw [HK.out]; exact Nat.le_refl _), List.append_nil] at hgx'
      obtain ⟨X, hX⟩ : ∃ X, k.map (xorB · by') = X := ⟨_, rfl⟩
      have hXl : X.length = 64 := by rw [← hX, List.length_map, HK.out]
      have hXb : ∀ x ∈ X, 0 ≤ x ∧ x < 256 := by rw [← hX]; exact xmap_byte hkb hy
      rw [hX] at hgx'
      have HX := Lib.hid hX
      have HXL := Lib.hid hXl
      have HGX := Lib.hid hgx'
      have HXB := Lib.hid hXb
      obtain ⟨wq, rfl⟩ : ∃ wq : World, wq = wr := ⟨_, rfl⟩
      have hrq : RdI wq .u8 A l := hr.below (bTg HB1.out hbx (by omega))
      clear hgx' hX hXl hgx hXb
      go_wp2_with (at_builtin; refine wpL_app_in (k := .u8) rfl _ _ 30 rfl 5 i0 (.int .u8 0) 1 Try.underlying30 hi hz0 hz1 hz2 rfl ⟨w.heap.size + 1, 0, none⟩ X 64 rfl HXL.out (rd_row HGX.out) _ _ l rfl hrq ?_ ?_ ?_; (focus (unfold maxLen; have := HXL.out; omega)); (focus (have := HXL.out; omega)); intro A3 c3 w3 hr3 hc3 hb3)
      have hzq : w.heap.size + 1 < wq.heap.size := (Array.getElem?_eq_some_iff.1 HGX.out).1
      have hbyte : ∀ x ∈ X ++ l, 0 ≤ x ∧ x < 256 := by
        intro x hx
        rcases List.mem_append.1 hx with hx | hx
        · exact HXB.out x hx
        · exact hb x hx
      have HXL' := HXL.out
      refine (sum_len A3 c3 (X.length + l.length) (X ++ l) w3 (by simp) hr3 (by omega) hbyte).mono ?_
      rintro e w4 ⟨rfl, hb4⟩
      have hz3 := hb3.size
      have hg4 := (hb4.block w.heap.size (by omega)).trans ((hb3.block w.heap.size (by omega)).trans ((hbx.block w.heap.size (by omega)).trans HG0.out))
      have HG4 := Lib.hid hg4
      have HB4 := Lib.hid (bTg (bTg (bTg HB1.out hbx (by omega)) hb3 (by omega)) hb4 (by omega))
      obtain ⟨SU, hSU⟩ : ∃ S, sumN (X ++ l) = S := ⟨_, rfl⟩
      have hSl : SU.length = 32 := by rw [← hSU]; exact sumN_len _
      have HSE : Hid (sideN k by' l = SU) := Lib.hid (by unfold sideN; rw [HX.out, hSU])
      have HSL := Lib.hid hSl
      rw [hSU]
      clear hg4 hSU hSl HXL' hb3 hb4 hbyte
      go_wp2_with (refine wpList_store_row rfl 42 (.tmp 5) _ rfl w.heap.size (bv SU).toArray rfl rfl 42 _ HG4.out ?_ ?_ (all_one (bv_one _)) ?_; (focus (rw [List.size_toArray, bv_len, HSL.out]; exact info32)); (focus (rw [List.size_toArray, bv_len, List.size_toArray, bv_len, HSL.out]; rfl)))
      refine bodyPost_ret (v := .agg (bv SU).toArray) (results_cell_row rfl _ _ w.heap.size 42 (bv SU).toArray (0, 0) _ rfl (setRow_heap _ _ _ _ _ _ HG4.out) Try.underlying42 rfl (by rw [List.size_toArray, bv_len, HSL.out]; exact info32)) rfl ⟨by rw [← HSE.out], setRow_below HB4.out (Nat.le_refl _)⟩

set_option maxHeartbeats 4000000 in
theorem macBlock_any (A : Option Addr) (c : Nat) (l : List Int) (w : World) (hr : RdI w .u8 A l) (hl : l.length ≤ 70368744177664) (hb : ∀ x ∈ l, 0 ≤ x ∧ x < 256) :
    Calls Try.prog 92 #[.slice A l.length c] w fun e w' => e = .returned (.agg (bv (keyN l)).toArray) ∧ Below w.heap.size w w' := by
  obtain ⟨KN, hKN⟩ : ∃ K, keyN l = K := ⟨_, rfl⟩
  have hKl : KN.length = 64 := by rw [← hKN]; exact keyN_len l
  have HKL := Lib.hid hKl
  have HKN := Lib.hid hKN
  clear hKl hKN
  by_cases h64 : 64 < l.length
  · have d1 : (64 : Int) < (l.length : Int) := by omega
    have HK : Hid (sumN l ++ List.replicate (64 - 32) 0 = KN) := Lib.hid (by rw [← HKN.out]; unfold keyN; rw [if_pos h64, sumN_len])
    obtain ⟨SU, hSU⟩ : ∃ S, sumN l = S := ⟨_, rfl⟩
    have hSl : SU.length = 32 := by rw [← hSU]; exact sumN_len _
    go_enter Try.func92, Try.ntmps92
    go_wp2_with fail
    generalize hW1 : World.alloc _ _ = w1
    have g1 : w1.heap[w.heap.size + 1]? = some (.cells (bv (List.replicate 64 0)).toArray 102 (0, 0)) := by rw [← hW1]; exact heap_alloc2_new w _ _
    have g0 : w1.heap[w.heap.size]? = some (.cells (bv (List.replicate 64 0)).toArray 102 (0, 0)) := by rw [← hW1]; exact heap_alloc2_old w _ _
    have b1 : Below w.heap.size w w1 := by rw [← hW1]; exact bA (bel1 w _) _
    have z1 : w.heap.size + 1 < w1.heap.size := (Array.getElem?_eq_some_iff.1 g1).1
    refine (sum_any A c l w1 (hr.below b1) hl hb).mono ?_
    rintro e w2 ⟨rfl, b2⟩
    have hg1' := (b2.block (w.heap.size + 1) z1).trans g1
    have hg0' := (b2.block w.heap.size (by omega)).trans g0
    have z2 := b2.size
    rw [hSU]
    rw [hSU] at HK
    have HSL := Lib.hid hSl
    have HB2 := Lib.hid (bT b1 b2)
    have HG1 := Lib.hid hg1'
    have HG0' := Lib.hid hg0'
    clear hW1 g1 g0 b1 b2 hg1' hg0' hSU hSl
    obtain ⟨w3, hw3, g3, b3, z3⟩ := newRow w2 (bv (List.replicate 32 0)).toArray (bv SU).toArray 42
    have HW3 := Lib.hid hw3
    have HG3 := Lib.hid g3
    have HG13 := Lib.hid ((b3.block (w.heap.size + 1) (by omega)).trans HG1.out)
    have HG03 := Lib.hid ((b3.block w.heap.size (by omega)).trans HG0'.out)
    have HB3 := Lib.hid (bT HB2.out b3)
    clear hw3 g3
    go_wp2_with (first | (refine wpList_store_row rfl 42 _ _ rfl w2.heap.size (bv SU).toArray rfl rfl 42 _ (heap_alloc_new w2 _) ?_ ?_ (all_one (bv_one _)) ?_; (focus (rw [List.size_toArray, bv_len, HSL.out]; exact info32)); (focus (show 32 = (bv SU).toArray.size; rw [List.size_toArray, bv_len, HSL.out])); generalize hW3 : World.setRow _ _ _ = w33; obtain rfl : w3 = w33 := (by rw [← HW3.out, ← hW3]; kernel_rfl)) | (refine wpList_copy_splice rfl (.tmp 11) (.tmp 12) 30 30 rfl 5 Try.underlying30 sizeU8 _ _ 64 64 32 32 rfl rfl (w.heap.size + 1) 0 (bv (List.replicate 64 0)) 102 HG13.out (bv SU) (by rw [bv_len, HSL.out]; rfl) (fun hp => ⟨rfl, (rd_row HG3.out).src (by rw [HSL.out]; decide)⟩) (by rw [bv_len, bv_len, HSL.out]; decide) (bv_one _) (w.heap.size + 1) w3 (Below.refl _ _) (Nat.le_refl _) ?_; intro w4 hg2 hb2; have HG2 : Hid (w4.heap[w.heap.size + 1]? = some (.cells (bv KN).toArray 102 (0, 0))) := Lib.hid (by have h := hg2.out; rw [splice_zero (by rw [HSL.out]; decide), HSL.out, HK.out] at h; exact h); have HG0 := Lib.hid ((hb2.block w.heap.size (by omega)).trans HG03.out); have HB := Lib.hid (bTg HB3.out hb2 (by omega)); clear hg2 hb2) | (refine wpList_load_row rfl 102 (.tmp 3) rfl (w.heap.size + 1) rfl 102 (bv KN).toArray (0, 0) _ HG2.out Try.underlying102 rfl ?_ ?_; (focus (rw [List.size_toArray, bv_len, HKL.out]; exact infoA64))) | (refine wpList_store_row rfl 102 (.tmp 2) _ rfl w.heap.size (bv KN).toArray rfl rfl 102 _ HG0.out ?_ ?_ (all_one (bv_one _)) ?_; (focus (rw [List.size_toArray, bv_len, HKL.out]; exact infoA64)); (focus (rw [List.size_toArray, bv_len, List.size_toArray, bv_len, HKL.out]; rfl))))
    refine bodyPost_ret (v := .agg (bv KN).toArray) (results_cell_row rfl _ _ w.heap.size 102 (bv KN).toArray (0, 0) _ rfl (setRow_heap _ _ _ _ _ _ HG0.out) Try.underlying102 rfl (by rw [List.size_toArray, bv_len, HKL.out]; exact infoA64)) rfl ⟨by rw [← HKN.out], setRow_below HB.out (Nat.le_refl _)⟩
  · have d1 : ¬ (64 : Int) < (l.length : Int) := by omega
    have HK : Hid (l ++ List.replicate (64 - l.length) 0 = KN) := Lib.hid (by rw [← HKN.out]; unfold keyN; rw [if_neg h64])
    have hmin : (bv l).length = Nat.min l.length 64 := by rw [bv_len]; exact (Nat.min_eq_left (by omega)).symm
    have HM := Lib.hid hmin
    clear hmin
    go_enter Try.func92, Try.ntmps92
    go_wp2_with (first | (refine wpList_copy_splice rfl (.tmp 11) (.tmp 12) 30 30 rfl 5 Try.underlying30 sizeU8 _ _ 64 64 l.length c rfl rfl (w.heap.size + 1) 0 (bv (List.replicate 64 0)) 102 (heap_alloc2_new w _ _) (bv l) HM.out (fun hp => ⟨rfl, (hr.below (bA (bel1 w _) _)).src (by rw [bv_len] at hp; exact hp)⟩) (by rw [bv_len, bv_len, List.length_replicate]; omega) (bv_one _) (w.heap.size + 1) _ (Below.refl _ _) (Nat.le_refl _) ?_; intro w4 hg2 hb2; have HG2 : Hid (w4.heap[w.heap.size + 1]? = some (.cells (bv KN).toArray 102 (0, 0))) := Lib.hid (by have h := hg2.out; rw [splice_zero (by omega), HK.out] at h; exact h); have HG0 := Lib.hid (show w4.heap[w.heap.size]? = some (.cells (bv (List.replicate 64 0)).toArray 102 (0, 0)) from (hb2.block w.heap.size (by omega)).trans (heap_alloc2_old w _ _)); have HB := Lib.hid (bTg (bA (bel1 w _) _) hb2 (by omega)); clear hg2 hb2) | (refine wpList_load_row rfl 102 (.tmp 3) rfl (w.heap.size + 1) rfl 102 (bv KN).toArray (0, 0) _ HG2.out Try.underlying102 rfl ?_ ?_; (focus (rw [List.size_toArray, bv_len, HKL.out]; exact infoA64))) | (refine wpList_store_row rfl 102 (.tmp 2) _ rfl w.heap.size (bv KN).toArray rfl rfl 102 _ HG0.out ?_ ?_ (all_one (bv_one _)) ?_; (focus (rw [List.size_toArray, bv_len, HKL.out]; exact infoA64)); (focus (rw [List.size_toArray, bv_len, List.size_toArray, bv_len, HKL.out]; rfl))))
    refine bodyPost_ret (v := .agg (bv KN).toArray) (results_cell_row rfl _ _ w.heap.size 102 (bv KN).toArray (0, 0) _ rfl (setRow_heap _ _ _ _ _ _ HG0.out) Try.underlying102 rfl (by rw [List.size_toArray, bv_len, HKL.out]; exact infoA64)) rfl ⟨by rw [← HKN.out], setRow_below HB.out (Nat.le_refl _)⟩

theorem macSide_len (k : List Int) (by' : Int) (g : Nat) (A : Option Addr) (c n : Nat) (l : List Int) (w : World) (hn : l.length = n) (hk : k.length = 64) (hkb : ∀ x ∈ k, 0 ≤ x ∧ x < 256) (hg : w.heap[g]? = some (.cells (bv k).toArray 102 (0, 0))) (hy : 0 ≤ by' ∧ by' < 256) (hr : RdI w .u8 A l) (hl : n ≤ 70368744177000) (hb : ∀ x ∈ l, 0 ≤ x ∧ x < 256) :
    Calls Try.prog 93 #[.int .u8 by', .slice A n c, .pointer (some ⟨g, 0, none⟩)] w fun e w' => e = .returned (.agg (bv (sideN k by' l)).toArray) ∧ Below w.heap.size w w' := by
  subst hn
  exact macSide_any k by' g A c l w hk hkb hg hy hr hl hb
set_option maxHeartbeats 4000000 in
theorem macTag_any (A B : Option Addr) (c d : Nat) (s l : List Int) (w : World) (hr : RdI w .u8 A s) (hs : RdI w .u8 B l) (hsl : s.length ≤ 70368744177664) (hl : l.length ≤ 70368744177000) (hsb : ∀ x ∈ s, 0 ≤ x ∧ x < 256) (hlb : ∀ x ∈ l, 0 ≤ x ∧ x < 256) :
    Calls Try.prog 50 #[.slice A s.length c, .slice B l.length d] w fun e w' => e = .returned (.agg (bv (tagN s l)).toArray) ∧ Below w.heap.size w w' := by
  have hmf : ∀ (fn : Fn) (first cap : Array Value) (w : World), (Instr.makeFunc fn first cap).run Try.prog w = .ok (.func fn first cap) w := fun _ _ _ _ => rfl
  obtain ⟨K, hK⟩ : ∃ K, keyN s = K := ⟨_, rfl⟩
  have hKl : K.length = 64 := by rw [← hK]; exact keyN_len s
  have hKb : ∀ x ∈ K, 0 ≤ x ∧ x < 256 := by rw [← hK]; exact keyN_byte hsb
  obtain ⟨I, hI⟩ : ∃ I, sideN K 54 l = I := ⟨_, rfl⟩
  have hIl : I.length = 32 := by rw [← hI]; exact sumN_len _
  have hIb : ∀ x ∈ I, 0 ≤ x ∧ x < 256 := by rw [← hI]; exact sumN_byte _
  obtain ⟨T, hT⟩ : ∃ T, sideN K 92 I = T := ⟨_, rfl⟩
  have hTl : T.length = 32 := by rw [← hT]; exact sumN_len _
  have HTE : Hid (tagN s l = T) := Lib.hid (by unfold tagN; rw [hK, hI, hT])
  have HKL := Lib.hid hKl
  have HKB := Lib.hid hKb
  have HIL := Lib.hid hIl
  have HIB := Lib.hid hIb
  have HTL := Lib.hid hTl
  have HK := Lib.hid hK
  have HI := Lib.hid hI
  have HT := Lib.hid hT
  clear hK hKl hKb hI hIl hIb hT hTl
  obtain ⟨w0, hw0, g0, b0, z0⟩ := new_block w (.cells (bv (List.replicate 32 0)).toArray 42)
  go_enter Try.func50, Try.ntmps50
  go_wp2_with fail
  generalize hW0 : World.alloc _ _ = w00
  obtain rfl : w0 = w00 := by rw [← hw0, ← hW0]; kernel_rfl
  clear hw0 hW0
  refine (macBlock_any A c s w0 (hr.below b0) hsl hsb).mono ?_
  rintro e w1 ⟨rfl, b1⟩
  rw [HK.out]
  have g1 := (b1.block w.heap.size (by omega)).trans g0
  have B1 := bT b0 b1
  have s1 := (hs.below b0).below b1
  have z1 := b1.size
  obtain ⟨w2, hw2, k2, b2, z2⟩ := newRow w1 (bv (List.replicate 64 0)).toArray (bv K).toArray 102
  have HW2 := Lib.hid hw2
  have g2 := (b2.block w.heap.size (by omega)).trans g1
  have B2 := bT B1 b2
  have s2 := s1.below b2
  have HG2 := Lib.hid g2
  have HK2 := Lib.hid k2
  clear hw2 g0 g1 g2 k2 b0 b1 b2
  go_wp2_with (refine wpList_store_row rfl 102 _ _ rfl w1.heap.size (bv K).toArray rfl rfl 102 _ (heap_alloc_new w1 _) ?_ ?_ (all_one (bv_one _)) ?_; (focus (rw [List.size_toArray, bv_len, HKL.out]; exact infoA64)); (focus (show 64 = (bv K).toArray.size; rw [List.size_toArray, bv_len, HKL.out])); generalize hW2 : World.setRow _ _ _ = w22; obtain rfl : w2 = w22 := (by rw [← HW2.out, ← hW2]; kernel_rfl))
  refine (macSide_any K 54 w1.heap.size B d l w2 HKL.out HKB.out HK2.out (by decide) s2 hl hlb).mono ?_
  rintro e w3 ⟨rfl, b3⟩
  rw [HI.out]
  have k3 := (b3.block w1.heap.size (by omega)).trans HK2.out
  have g3 := (b3.block w.heap.size (by omega)).trans HG2.out
  have B3 := bT B2 b3
  have z3 := b3.size
  obtain ⟨w4, hw4, i4, b4, z4⟩ := newRow w3 (bv (List.replicate 32 0)).toArray (bv I).toArray 42
  have HW4 := Lib.hid hw4
  have k4 := (b4.block w1.heap.size (by omega)).trans k3
  have g4 := (b4.block w.heap.size (by omega)).trans g3
  have B4 := bT B3 b4
  have HG4 := Lib.hid g4
  have HK4 := Lib.hid k4
  have HI4 := Lib.hid i4
  clear hw4 k3 g3 k4 g4 i4 b3 b4 s1 s2 B1 B2 B3 HG2 HK2
  go_wp2_with (refine wpList_store_row rfl 42 _ _ rfl w3.heap.size (bv I).toArray rfl rfl 42 _ (heap_alloc_new w3 _) ?_ ?_ (all_one (bv_one _)) ?_; (focus (rw [List.size_toArray, bv_len, HIL.out]; exact info32)); (focus (show 32 = (bv I).toArray.size; rw [List.size_toArray, bv_len, HIL.out])); generalize hW4 : World.setRow _ _ _ = w44; obtain rfl : w4 = w44 := (by rw [← HW4.out, ← hW4]; kernel_rfl))
  refine (macSide_len K 92 w1.heap.size (some ⟨w3.heap.size, 0, none⟩) 32 32 I w4 HIL.out HKL.out HKB.out HK4.out (by decide) (rd_row HI4.out) (by decide) HIB.out).mono ?_
  rintro e w5 ⟨rfl, b5⟩
  rw [HT.out]
  have g5 := (b5.block w.heap.size (by omega)).trans HG4.out
  have HG5 := Lib.hid g5
  have HB5 := Lib.hid (bT B4 b5)
  clear g5 b5 B4
  go_wp2_with (refine wpList_store_row rfl 42 (.tmp 4) _ rfl w.heap.size (bv T).toArray rfl rfl 42 _ HG5.out ?_ ?_ (all_one (bv_one _)) ?_; (focus (rw [List.size_toArray, bv_len, HTL.out]; exact info32)); (focus (rw [List.size_toArray, bv_len, List.size_toArray, bv_len, HTL.out]; rfl)))
  refine bodyPost_ret (v := .agg (bv T).toArray) (results_cell_row rfl _ _ w.heap.size 42 (bv T).toArray (0, 0) _ rfl (setRow_heap _ _ _ _ _ _ HG5.out) Try.underlying42 rfl (by rw [List.size_toArray, bv_len, HTL.out]; exact info32)) rfl ⟨by rw [← HTE.out], setRow_below HB5.out (Nat.le_refl _)⟩

theorem macTag_len (A B : Option Addr) (c d n : Nat) (s l : List Int) (w : World) (hn : l.length = n) (hr : RdI w .u8 A s) (hs : RdI w .u8 B l) (hsl : s.length ≤ 70368744177664) (hl : n ≤ 70368744177000) (hsb : ∀ x ∈ s, 0 ≤ x ∧ x < 256) (hlb : ∀ x ∈ l, 0 ≤ x ∧ x < 256) :
    Calls Try.prog 50 #[.slice A s.length c, .slice B n d] w fun e w' => e = .returned (.agg (bv (tagN s l)).toArray) ∧ Below w.heap.size w w' := by
  subst hn
  exact macTag_any A B c d s l w hr hs hsl hl hsb hlb
set_option maxHeartbeats 4000000 in
theorem bcTag_any (A B : Option Addr) (c d : Nat) (s l : List Int) (w : World) (hr : RdI w .u8 A s) (hs : RdI w .u8 B l) (hsl : s.length ≤ 70368744177664) (hl : l.length ≤ 70368744176000) (hsb : ∀ x ∈ s, 0 ≤ x ∧ x < 256) (hlb : ∀ x ∈ l, 0 ≤ x ∧ x < 256) :
    Calls Try.prog 17 #[.slice A s.length c, .slice B l.length d] w fun e w' => e = .returned (.agg (bv (tagN s (66 :: l))).toArray) ∧ Below w.heap.size w w' := by
  obtain ⟨i0, hi, hz0, hz1, hz2⟩ := info_parts infoB8
  obtain ⟨T, hT⟩ : ∃ T, tagN s (66 :: l) = T := ⟨_, rfl⟩
  have hTl : T.length = 32 := by rw [← hT]; exact tagN_len _ _
  have HTL := Lib.hid hTl
  have HT := Lib.hid hT
  clear hT hTl
  go_enter Try.func17, Try.ntmps17
  go_wp2_with (at_builtin; refine wpL_app_in (k := .u8) rfl _ _ 30 rfl 5 i0 (.int .u8 0) 1 Try.underlying30 hi hz0 hz1 hz2 rfl ⟨w.heap.size + 1, 0, none⟩ [66] 1 rfl rfl (RdI.lit' (l := [66]) (by simp)) _ _ l rfl ((hs.below (bel1 w _)).below (bel1 _ _)) ?_ ?_ ?_; (focus (unfold maxLen; simp; omega)); (focus (simp; omega)); intro A3 c3 w3 hr3 hc3 hb3; have hg3 : w3.heap[w.heap.size]? = some (.cells (bv (List.replicate 32 0)).toArray 42 (0, 0)) := (hb3.block w.heap.size (by simp; omega)).trans ((heap_alloc2_old w _ _)); have hB3 := bT (bA (bel1 w _) _) hb3; have hr3' := (hr.below (bA (bel1 w _) _)).below hb3; clear hb3)
  have HG3 := Lib.hid hg3
  have HB3 := Lib.hid hB3
  have hz3 : w.heap.size < w3.heap.size := (Array.getElem?_eq_some_iff.1 hg3).1
  obtain ⟨L, hL⟩ : ∃ L, [66] ++ l = L := ⟨_, rfl⟩
  have hLl : L.length = l.length + 1 := by rw [← hL]; simp
  have hLb : ∀ x ∈ L, 0 ≤ x ∧ x < 256 := by
    rw [← hL]; intro x hx
    rcases List.mem_append.1 hx with hx | hx
    · simp at hx; subst hx; omega
    · exact hlb x hx
  have HTL' : Hid (tagN s L = T) := Lib.hid (by rw [← hL]; exact HT.out)
  rw [hL] at hr3
  refine (macTag_len A A3 c c3 (l.length + 1) s L w3 hLl hr3' hr3 hsl (by omega) hsb hLb).mono ?_
  rintro e w5 ⟨rfl, b5⟩
  rw [HTL'.out]
  have g5 := (b5.block w.heap.size hz3).trans HG3.out
  have HG5 := Lib.hid g5
  have HB5 := Lib.hid (bT HB3.out b5)
  clear g5 b5 hL hLb
  go_wp2_with (refine wpList_store_row rfl 42 (.tmp 4) _ rfl w.heap.size (bv T).toArray rfl rfl 42 _ HG5.out ?_ ?_ (all_one (bv_one _)) ?_; (focus (rw [List.size_toArray, bv_len, HTL.out]; exact info32)); (focus (rw [List.size_toArray, bv_len, List.size_toArray, bv_len, HTL.out]; rfl)))
  refine bodyPost_ret (v := .agg (bv T).toArray) (results_cell_row rfl _ _ w.heap.size 42 (bv T).toArray (0, 0) _ rfl (setRow_heap _ _ _ _ _ _ HG5.out) Try.underlying42 rfl (by rw [List.size_toArray, bv_len, HTL.out]; exact info32)) rfl ⟨by rw [HT.out], setRow_below HB5.out (Nat.le_refl _)⟩
end Go.Proofs.Ytachkhjbckapoaa

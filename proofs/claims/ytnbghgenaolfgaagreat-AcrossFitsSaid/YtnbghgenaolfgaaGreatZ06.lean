/- Layers 3 and 19: the tag of bytes under a secret, by the program. Condition: lengths in bounds. Layer 16, the plain facts: bytes as signs of 45, two bytes as three signs; what was put is got again, and what was got is put as it was. Layer 16: the groups of some bytes, as an iterator. Layer 16: a sign out of the string of all signs. No condition. -/
import Derived.Test.YtnbghgenaolfgaaGreatZ05
import Derived.Test.YtnbghgenaolfgaaGreatZ00
import Derived.Test.YtnbghgenaolfgaaGreatZ01
import Derived.Laws.Strings
namespace Go.Proofs.YtnbghgenaolfgaaGreat
open Go.RowKit
set_option linter.unusedVariables false
set_option maxRecDepth 100000
set_option linter.unusedSimpArgs false

def xorB (x b : Int) : Int := ((x.toNat ^^^ b.toNat : Nat) : Int)
theorem xorB_byte {x b : Int} (hx : 0 ≤ x ∧ x < 256) (hb : 0 ≤ b ∧ b < 256) : 0 ≤ xorB x b ∧ xorB x b < 256 := by
  unfold xorB
  have : x.toNat ^^^ b.toNat < 2 ^ 8 := Nat.xor_lt_two_pow (by omega) (by omega)
  omega
theorem xor8 {x b : Int} (hx : 0 ≤ x ∧ x < 256) (hb : 0 ≤ b ∧ b < 256) : bits .xor .u8 x b = xorB x b := by
  obtain ⟨a, rfl⟩ := Int.eq_ofNat_of_zero_le hx.1
  obtain ⟨c, rfl⟩ := Int.eq_ofNat_of_zero_le hb.1
  have h1 : (BitVec.ofInt 8 (a : Int)).toNat = a := by rw [BitVec.ofInt_natCast, BitVec.toNat_ofNat]; exact Nat.mod_eq_of_lt (by omega)
  have h2 : (BitVec.ofInt 8 (c : Int)).toNat = c := by rw [BitVec.ofInt_natCast, BitVec.toNat_ofNat]; exact Nat.mod_eq_of_lt (by omega)
  have h3 := (xorB_byte hx hb).2
  unfold xorB at h3
  show IntKind.u8.wrap ((BitVec.ofInt 8 (a : Int) ^^^ BitVec.ofInt 8 (c : Int)).toNat : Int) = _
  rw [BitVec.toNat_xor, h1, h2, IntKind.wrap_u8]
  unfold xorB
  simp at h3 ⊢
  omega
/-- A secret as a block of 64 bytes. -/
def keyN (s : List Int) : List Int := (if 64 < s.length then sumN s else s) ++ List.replicate (64 - (if 64 < s.length then sumN s else s).length) 0
def sideN (k : List Int) (b : Int) (t : List Int) : List Int := sumN (k.map (xorB · b) ++ t)
def tagN (s b : List Int) : List Int := sideN (keyN s) 92 (sideN (keyN s) 54 b)
theorem keyN_len (s : List Int) : (keyN s).length = 64 := by
  unfold keyN
  by_cases h : 64 < s.length
  · simp [h, sumN_len]
  · simp [h]; omega
theorem keyN_byte {s : List Int} (h : ∀ x ∈ s, 0 ≤ x ∧ x < 256) : ∀ x ∈ keyN s, 0 ≤ x ∧ x < 256 := by
  intro x hx
  unfold keyN at hx
  rcases List.mem_append.1 hx with hx | hx
  · split at hx
    · exact sumN_byte s x hx
    · exact h x hx
  · rw [List.eq_of_mem_replicate hx]; omega
theorem xmap_byte {k : List Int} {b : Int} (h : ∀ x ∈ k, 0 ≤ x ∧ x < 256) (hb : 0 ≤ b ∧ b < 256) : ∀ x ∈ k.map (xorB · b), 0 ≤ x ∧ x < 256 := by
  intro x hx
  obtain ⟨y, hy, rfl⟩ := List.mem_map.1 hx
  exact xorB_byte (h y hy) hb
theorem tagN_len (s b : List Int) : (tagN s b).length = 32 := sumN_len _
theorem tagN_byte (s b : List Int) : ∀ x ∈ tagN s b, 0 ≤ x ∧ x < 256 := sumN_byte _

/-- append(xs, ys...), xs a full slice that came in: what comes back reads as both. -/
theorem wpL_app_in {P : Program} {w : World} {ops : Array Oper} {rest : List Oper} {o : Oper} {a : Act} {Q : Exit → Act → World → Prop} {k : IntKind} (hgd : o.guard = none) (s x : Operand) (t : TypeId)
    (ho : o.op = .call { callee := .builtin .append, args := #[s, x], argTypes := #[t, t] })
    (e : TypeId) (i : TypeInfo) (z : Value) (bytes : Nat) (ht : P.underlying t = some (.slice e)) (hi : P.info? e = some i) (hz : i.zero = some z)
    (hsize : i.size = 1) (hby : i.bytes = bytes) (hzs : z.cells = #[z])
    (ad : Addr) (xs : List Int) (n : Nat) (hs : a.eval s = .slice (some ad) n n) (hn : xs.length = n) (hrx : RdI w k (some ad) xs)
    (A : Option Addr) (c : Nat) (ys : List Int) (hx : a.eval x = .slice A ys.length c) (hr : RdI w k A ys)
    (h63 : xs.length + ys.length ≤ maxLen) (hbytes : (xs.length + ys.length) * bytes ≤ 140737488355328)
    (h : ∀ A' c' w', RdI w' k A' (xs ++ ys) → (xs ++ ys).length ≤ c' → Below w.heap.size w w' → wpList P ops Q rest (a.put o.dst (.slice A' (xs ++ ys).length c')) w') :
    wpList P ops Q (o :: rest) a w := by
  subst hby
  refine wpList_plain hgd fun K hK => ?_
  have go : ∀ (v : Value) (w' : World), (Builtin.append_ #[t, t] o.type #[.slice (some ad) n n, .slice A ys.length c]).run P w = .ok v w' → K (a.put o.dst v) w' → Oper.wp P o a w K Q := by
    intro v w' hrun hk
    unfold Oper.wp execOp
    simp only [ho, resolve, invoke, builtin, Sem.run_bind, Sem.run_pure, Result.andThen_ok, List.map_toArray, List.map_cons, List.map_nil, hs, hx, hrun]
    exact hk
  by_cases hy : ys = []
  · subst hy
    refine go (.slice (some ad) n n) w ?_ (hK _ _ (by have := h (some ad) n w (by simpa using hrx) (by simp; omega) (Below.refl _ _); simpa [hn] using this))
    cases A <;> simp [Builtin.append_, run_underlying ht, sizeOf, typeInfo, hi, Builtin.lenOf, Builtin.firstCells, storeCells, hsize, loadCells, loadCellsFrom]
  · have hpos : 0 < ys.length := List.length_pos_iff.mpr hy
    obtain ⟨bd, rfl, _⟩ := hr.at_ hpos
    have cx : ∀ j v, (xs.map (Value.int k))[j]? = some v → w.cell? (ad.add j) = some v := by
      intro j v hv
      rw [List.getElem?_map] at hv
      by_cases hj : j < xs.length
      · obtain ⟨ad', e', q⟩ := hrx.at_ hj
        obtain rfl := Option.some.inj e'
        rw [q]; simpa [hj] using hv
      · simp [hj] at hv
    have cy : ∀ j v, (ys.map (Value.int k))[j]? = some v → w.cell? (bd.add j) = some v := by
      intro j v hv
      rw [List.getElem?_map] at hv
      by_cases hj : j < ys.length
      · obtain ⟨ad', e', q⟩ := hr.at_ hj
        obtain rfl := Option.some.inj e'
        rw [q]; simpa [hj] using hv
      · simp [hj] at hv
    have hsmall : n + ys.length ≤ 9223372036854775807 := by simp only [maxLen] at h63; omega
    have hrun := run_append_grow (P := P) w t o.type e i z ht hi hz ad n n (xs.map (.int k)) (by simp [hsize, hn]) cx bd ys.length c (ys.map (.int k)) (by simp [hsize]) cy (by omega) (by omega) (growslice_fits (by omega) (by rw [← hn]; exact hbytes))
    refine go _ _ hrun (hK _ _ ?_)
    have hge := grownCap_ge w (n + ys.length) n e
    have := h (some ⟨w.heap.size, 0, none⟩) (grownCap w (n + ys.length) n e) (w.drew.alloc (.cells ((xs.map (Value.int k)).toArray ++ (ys.map (Value.int k)).toArray ++ Builtin.zeroCells z.cells (grownCap w (n + ys.length) n e - (n + ys.length))) e)) ?_ (by simp; omega) ?_
    · simpa [hn] using this
    · refine .inr ⟨_, rfl, by simp, fun j hj => ?_⟩
      have e1 : (⟨w.heap.size, 0, none⟩ : Addr).add j = ⟨w.heap.size, j, none⟩ := by unfold Addr.add; by_cases h : j = 0 <;> simp [h]
      have hg : (w.drew.alloc (.cells ((xs.map (Value.int k)).toArray ++ (ys.map (Value.int k)).toArray ++ Builtin.zeroCells z.cells (grownCap w (n + ys.length) n e - (n + ys.length))) e)).heap[w.heap.size]? = some (.cells ((xs.map (Value.int k)).toArray ++ (ys.map (Value.int k)).toArray ++ Builtin.zeroCells z.cells (grownCap w (n + ys.length) n e - (n + ys.length))) e (0, 0)) := heap_alloc_new w.drew _
      rw [e1, cell_of_row _ _ j _ _ _ hg, Array.getElem?_append_left (by simpa using hj)]
      rw [List.append_toArray, ← List.map_append, List.getElem?_toArray, List.getElem?_map]
      simp [List.getD_eq_getElem?_getD, List.getElem?_eq_getElem hj]
    · exact (Below.refl _ _).drew.alloc (Nat.le_refl _) _

theorem xmap_at {k : List Int} {b : Int} {t : Nat} (h : t < k.length) : ((k.take t).map (xorB · b) ++ k.drop t).getD t 0 = k.getD t 0 := by
  rw [List.getD_eq_getElem?_getD, List.getElem?_append_right (by simp; omega)]
  simp [List.getD_eq_getElem?_getD]
  congr 2
  omega
theorem xmap_set {k : List Int} {b : Int} {t : Nat} (h : t < k.length) : ((k.take t).map (xorB · b) ++ k.drop t).set t (xorB (k.getD t 0) b) = (k.take (t + 1)).map (xorB · b) ++ k.drop (t + 1) := by
  have e1 : k.take (t + 1) = k.take t ++ [k.getD t 0] := by rw [List.take_succ_eq_append_getElem h]; simp [List.getD_eq_getElem?_getD, h]
  have e3 : k.drop t = k.getD t 0 :: k.drop (t + 1) := drop_cons h
  rw [e1, e3, List.set_append, if_neg (by simp; omega), List.map_append]
  have : t - ((k.take t).map (xorB · b)).length = 0 := by simp; omega
  rw [this, List.set_cons_zero, List.append_assoc]
  rfl
theorem RdI.src {w : World} {k : IntKind} {A : Option Addr} {l : List Int} (h : RdI w k A l) (hp : 0 < l.length) : ∃ ad, A = some ad ∧ ∀ j v, (l.map (Value.int k))[j]? = some v → w.cell? (ad.add j) = some v := by
  obtain ⟨ad, rfl, _⟩ := h.at_ hp
  refine ⟨ad, rfl, fun j v hv => ?_⟩
  rw [List.getElem?_map] at hv
  by_cases hj : j < l.length
  · obtain ⟨ad', e', q⟩ := h.at_ hj
    obtain rfl := Option.some.inj e'
    rw [q]; simpa [hj] using hv
  · simp [hj] at hv
theorem sizeU8 : (Tryz.prog.info? 5).map (·.size) = some 1 := by kernel_rfl
theorem splice_zero {n : Nat} {l : List Int} (h : l.length ≤ n) : splice (bv (List.replicate n 0)) 0 (bv l) = bv (l ++ List.replicate (n - l.length) 0) := by
  unfold splice
  rw [List.take_zero, List.nil_append, Nat.zero_add, bv_len]
  simp [bv]
theorem infoA64 : (Tryz.prog.info? 177).map (·.size) = some 64 := by kernel_rfl

theorem sum_len (A : Option Addr) (c n : Nat) (l : List Int) (w : World) (hn : l.length = n) (hr : RdI w .u8 A l) (hl : n ≤ 70368744177664) (hb : ∀ x ∈ l, 0 ≤ x ∧ x < 256) :
    Calls Tryz.prog 168 #[.slice A n c] w fun e w' => e = .returned (.agg (bv (sumN l)).toArray) ∧ Below w.heap.size w w' := by
  subst hn
  exact sum_any A c l w hr hl hb
set_option maxHeartbeats 4000000 in
theorem macSide_any (k : List Int) (by' : Int) (g : Nat) (A : Option Addr) (c : Nat) (l : List Int) (w : World) (hk : k.length = 64) (hkb : ∀ x ∈ k, 0 ≤ x ∧ x < 256) (hg : w.heap[g]? = some (.cells (bv k).toArray 177 (0, 0))) (hy : 0 ≤ by' ∧ by' < 256) (hr : RdI w .u8 A l) (hl : l.length ≤ 70368744177000) (hb : ∀ x ∈ l, 0 ≤ x ∧ x < 256) :
    Calls Tryz.prog 167 #[.int .u8 by', .slice A l.length c, .pointer (some ⟨g, 0, none⟩)] w fun e w' => e = .returned (.agg (bv (sideN k by' l)).toArray) ∧ Below w.heap.size w w' := by
  obtain ⟨i0, hi, hz0, hz1, hz2⟩ := info_parts infoB8
  have HK := Lib.hid hk
  have HG := Lib.hid hg
  have hgs : g < w.heap.size := (Array.getElem?_eq_some_iff.1 hg).1
  clear hk hg
  go_enter Tryz.func167, Tryz.ntmps167
  go_wp2_with (first | (refine wpList_load_row rfl 177 (.tmp 2) rfl g rfl 177 (bv k).toArray (0, 0) _ (((bel1 w _).block g hgs).trans HG.out) Tryz.underlying177 rfl ?_ ?_; (focus (rw [List.size_toArray, bv_len, HK.out]; exact infoA64))) | (refine wpList_store_row rfl 177 _ _ rfl (w.heap.size + 1) (bv k).toArray rfl rfl 177 _ (heap_alloc2_new w _ _) ?_ ?_ (all_one (bv_one _)) ?_; (focus (rw [List.size_toArray, bv_len, HK.out]; exact infoA64)); (focus (show 64 = (bv k).toArray.size; rw [List.size_toArray, bv_len, HK.out])); generalize hW1 : World.setRow _ _ _ = w1; have hg1 : w1.heap[w.heap.size + 1]? = some (.cells (bv k).toArray 177 (0, 0)) := (by rw [← hW1]; exact setRow_heap _ _ _ _ _ _ (heap_alloc2_new w _ _)); have hg0 : w1.heap[w.heap.size]? = some (.cells (bv (List.replicate 32 0)).toArray 102 (0, 0)) := (by rw [← hW1]; exact (setRow_other _ _ _ _ (by omega)).trans (heap_alloc2_old w _ _)); have hb1 : Below w.heap.size w w1 := (by rw [← hW1]; exact setRow_below (bA (bel1 w _) _) (by omega)); have hz1 : w1.heap.size = w.heap.size + 1 + 1 := (by rw [← hW1]; simp); clear hW1))
  have HG1 := Lib.hid hg1
  have HG0 := Lib.hid hg0
  have HZ1 := Lib.hid hz1
  have HB1 := Lib.hid hb1
  have hr1 := hr.below hb1
  clear hg1 hg0 hz1
  go_loopw [9] (fun i wr => ∃ t : Nat, t ≤ 64 ∧ i = .int .i64 (t : Int) ∧ Hid (wr.heap[w.heap.size + 1]? = some (.cells (bv ((k.take t).map (xorB · by') ++ k.drop t)).toArray 177 (0, 0))) ∧ Below (w.heap.size + 1) w1 wr) (fun i _ => 64 - (intOf i).toNat)
  case atStart => exact ⟨0, Nat.zero_le _, rfl, Lib.hid (by simpa using HG1.out), Below.refl _ _⟩
  case round =>
    obtain ⟨t, ht, rfl, hgx, hbx⟩ := hrel
    by_cases hlt : t < 64
    · have hlen : ((k.take t).map (xorB · by') ++ k.drop t).length = 64 := by simp; have := HK.out; omega
      have cx := row_bv (j := t) hgx.out (by rw [hlen]; omega)
      rw [show ((k.take t).map (xorB · by') ++ k.drop t).getD t 0 = k.getD t 0 from xmap_at (by rw [HK.out]; omega)] at cx
      have hx := hkb _ (getD_mem (show t < k.length by rw [HK.out]; omega))
      have fz := row_free hgx.out
      have HS := Lib.hid (xmap_set (k := k) (b := by') (t := t) (by rw [HK.out]; omega))
      generalize k.getD t 0 = x at *
      have X := xor8 hx hy
      clear hlen
      go_wp2
      go_roundw
      case rel => exact ⟨t + 1, by omega, by go_num, Lib.hid (by rw [← HS.out]; exact row_bset t (xorB x by') hgx.out), bSg hbx (Nat.le_refl _) _⟩
      case measure => simp [intOf]; omega
    · obtain rfl : t = 64 := by omega
      have hgx' := hgx.out
      rw [List.take_of_length_le (by rw [HK.out]; exact Nat.le_refl _), List.drop_eq_nil_of_le (by rw [HK.out]; exact Nat.le_refl _), List.append_nil] at hgx'
      obtain ⟨X, hX⟩ : ∃ X, k.map (xorB · by') = X := ⟨_, rfl⟩
      have hXl : X.length = 64 := by rw [← hX, List.length_map, HK.out]
      have hXb : ∀ x ∈ X, 0 ≤ x ∧ x < 256 := by rw [← hX]; exact xmap_byte hkb hy
      rw [hX] at hgx'
      have HX := Lib.hid hX
      have HXL := Lib.hid hXl
      have HGX := Lib.hid hgx'
      have HXB := Lib.hid hXb
      obtain ⟨wq, rfl⟩ : ∃ wq : World, wq = wr := ⟨_, rfl⟩
      have hrq : RdI wq .u8 A l := hr.below (bTg HB1.out hbx (by omega))
      clear hgx' hX hXl hgx hXb
      go_wp2_with (at_builtin; refine wpL_app_in (k := .u8) rfl _ _ 30 rfl 5 i0 (.int .u8 0) 1 Tryz.underlying30 hi hz0 hz1 hz2 rfl ⟨w.heap.size + 1, 0, none⟩ X 64 rfl HXL.out (rd_row HGX.out) _ _ l rfl hrq ?_ ?_ ?_; (focus (unfold maxLen; have := HXL.out; omega)); (focus (have := HXL.out; omega)); intro A3 c3 w3 hr3 hc3 hb3)
      have hzq : w.heap.size + 1 < wq.heap.size := (Array.getElem?_eq_some_iff.1 HGX.out).1
      have hbyte : ∀ x ∈ X ++ l, 0 ≤ x ∧ x < 256 := by
        intro x hx
        rcases List.mem_append.1 hx with hx | hx
        · exact HXB.out x hx
        · exact hb x hx
      have HXL' := HXL.out
      refine (sum_len A3 c3 (X.length + l.length) (X ++ l) w3 (by simp) hr3 (by omega) hbyte).mono ?_
      rintro e w4 ⟨rfl, hb4⟩
      have hz3 := hb3.size
      have hg4 := (hb4.block w.heap.size (by omega)).trans ((hb3.block w.heap.size (by omega)).trans ((hbx.block w.heap.size (by omega)).trans HG0.out))
      have HG4 := Lib.hid hg4
      have HB4 := Lib.hid (bTg (bTg (bTg HB1.out hbx (by omega)) hb3 (by omega)) hb4 (by omega))
      obtain ⟨SU, hSU⟩ : ∃ S, sumN (X ++ l) = S := ⟨_, rfl⟩
      have hSl : SU.length = 32 := by rw [← hSU]; exact sumN_len _
      have HSE : Hid (sideN k by' l = SU) := Lib.hid (by unfold sideN; rw [HX.out, hSU])
      have HSL := Lib.hid hSl
      rw [hSU]
      clear hg4 hSU hSl HXL' hb3 hb4 hbyte
      go_wp2_with (refine wpList_store_row rfl 102 (.tmp 5) _ rfl w.heap.size (bv SU).toArray rfl rfl 102 _ HG4.out ?_ ?_ (all_one (bv_one _)) ?_; (focus (rw [List.size_toArray, bv_len, HSL.out]; exact info32)); (focus (rw [List.size_toArray, bv_len, List.size_toArray, bv_len, HSL.out]; rfl)))
      refine bodyPost_ret (v := .agg (bv SU).toArray) (results_cell_row rfl _ _ w.heap.size 102 (bv SU).toArray (0, 0) _ rfl (setRow_heap _ _ _ _ _ _ HG4.out) Tryz.underlying102 rfl (by rw [List.size_toArray, bv_len, HSL.out]; exact info32)) rfl ⟨by rw [← HSE.out], setRow_below HB4.out (Nat.le_refl _)⟩

set_option maxHeartbeats 4000000 in
theorem macBlock_any (A : Option Addr) (c : Nat) (l : List Int) (w : World) (hr : RdI w .u8 A l) (hl : l.length ≤ 70368744177664) (hb : ∀ x ∈ l, 0 ≤ x ∧ x < 256) :
    Calls Tryz.prog 166 #[.slice A l.length c] w fun e w' => e = .returned (.agg (bv (keyN l)).toArray) ∧ Below w.heap.size w w' := by
  obtain ⟨KN, hKN⟩ : ∃ K, keyN l = K := ⟨_, rfl⟩
  have hKl : KN.length = 64 := by rw [← hKN]; exact keyN_len l
  have HKL := Lib.hid hKl
  have HKN := Lib.hid hKN
  clear hKl hKN
  by_cases h64 : 64 < l.length
  · have d1 : (64 : Int) < (l.length : Int) := by omega
    have HK : Hid (sumN l ++ List.replicate (64 - 32) 0 = KN) := Lib.hid (by rw [← HKN.out]; unfold keyN; rw [if_pos h64, sumN_len])
    obtain ⟨SU, hSU⟩ : ∃ S, sumN l = S := ⟨_, rfl⟩
    have hSl : SU.length = 32 := by rw [← hSU]; exact sumN_len _
    go_enter Tryz.func166, Tryz.ntmps166
    go_wp2_with fail
    generalize hW1 : World.alloc _ _ = w1
    have g1 : w1.heap[w.heap.size + 1]? = some (.cells (bv (List.replicate 64 0)).toArray 177 (0, 0)) := by rw [← hW1]; exact heap_alloc2_new w _ _
    have g0 : w1.heap[w.heap.size]? = some (.cells (bv (List.replicate 64 0)).toArray 177 (0, 0)) := by rw [← hW1]; exact heap_alloc2_old w _ _
    have b1 : Below w.heap.size w w1 := by rw [← hW1]; exact bA (bel1 w _) _
    have z1 : w.heap.size + 1 < w1.heap.size := (Array.getElem?_eq_some_iff.1 g1).1
    refine (sum_any A c l w1 (hr.below b1) hl hb).mono ?_
    rintro e w2 ⟨rfl, b2⟩
    have hg1' := (b2.block (w.heap.size + 1) z1).trans g1
    have hg0' := (b2.block w.heap.size (by omega)).trans g0
    have z2 := b2.size
    rw [hSU]
    rw [hSU] at HK
    have HSL := Lib.hid hSl
    have HB2 := Lib.hid (bT b1 b2)
    have HG1 := Lib.hid hg1'
    have HG0' := Lib.hid hg0'
    clear hW1 g1 g0 b1 b2 hg1' hg0' hSU hSl
    obtain ⟨w3, hw3, g3, b3, z3⟩ := newRow w2 (bv (List.replicate 32 0)).toArray (bv SU).toArray 102
    have HW3 := Lib.hid hw3
    have HG3 := Lib.hid g3
    have HG13 := Lib.hid ((b3.block (w.heap.size + 1) (by omega)).trans HG1.out)
    have HG03 := Lib.hid ((b3.block w.heap.size (by omega)).trans HG0'.out)
    have HB3 := Lib.hid (bT HB2.out b3)
    clear hw3 g3
    go_wp2_with (first | (refine wpList_store_row rfl 102 _ _ rfl w2.heap.size (bv SU).toArray rfl rfl 102 _ (heap_alloc_new w2 _) ?_ ?_ (all_one (bv_one _)) ?_; (focus (rw [List.size_toArray, bv_len, HSL.out]; exact info32)); (focus (show 32 = (bv SU).toArray.size; rw [List.size_toArray, bv_len, HSL.out])); generalize hW3 : World.setRow _ _ _ = w33; obtain rfl : w3 = w33 := (by rw [← HW3.out, ← hW3]; kernel_rfl)) | (refine wpList_copy_splice rfl (.tmp 11) (.tmp 12) 30 30 rfl 5 Tryz.underlying30 sizeU8 _ _ 64 64 32 32 rfl rfl (w.heap.size + 1) 0 (bv (List.replicate 64 0)) 177 HG13.out (bv SU) (by rw [bv_len, HSL.out]; rfl) (fun hp => ⟨rfl, (rd_row HG3.out).src (by rw [HSL.out]; decide)⟩) (by rw [bv_len, bv_len, HSL.out]; decide) (bv_one _) (w.heap.size + 1) w3 (Below.refl _ _) (Nat.le_refl _) ?_; intro w4 hg2 hb2; have HG2 : Hid (w4.heap[w.heap.size + 1]? = some (.cells (bv KN).toArray 177 (0, 0))) := Lib.hid (by have h := hg2.out; rw [splice_zero (by rw [HSL.out]; decide), HSL.out, HK.out] at h; exact h); have HG0 := Lib.hid ((hb2.block w.heap.size (by omega)).trans HG03.out); have HB := Lib.hid (bTg HB3.out hb2 (by omega)); clear hg2 hb2) | (refine wpList_load_row rfl 177 (.tmp 3) rfl (w.heap.size + 1) rfl 177 (bv KN).toArray (0, 0) _ HG2.out Tryz.underlying177 rfl ?_ ?_; (focus (rw [List.size_toArray, bv_len, HKL.out]; exact infoA64))) | (refine wpList_store_row rfl 177 (.tmp 2) _ rfl w.heap.size (bv KN).toArray rfl rfl 177 _ HG0.out ?_ ?_ (all_one (bv_one _)) ?_; (focus (rw [List.size_toArray, bv_len, HKL.out]; exact infoA64)); (focus (rw [List.size_toArray, bv_len, List.size_toArray, bv_len, HKL.out]; rfl))))
    refine bodyPost_ret (v := .agg (bv KN).toArray) (results_cell_row rfl _ _ w.heap.size 177 (bv KN).toArray (0, 0) _ rfl (setRow_heap _ _ _ _ _ _ HG0.out) Tryz.underlying177 rfl (by rw [List.size_toArray, bv_len, HKL.out]; exact infoA64)) rfl ⟨by rw [← HKN.out], setRow_below HB.out (Nat.le_refl _)⟩
  · have d1 : ¬ (64 : Int) < (l.length : Int) := by omega
    have HK : Hid (l ++ List.replicate (64 - l.length) 0 = KN) := Lib.hid (by rw [← HKN.out]; unfold keyN; rw [if_neg h64])
    have hmin : (bv l).length = Nat.min l.length 64 := by rw [bv_len]; exact (Nat.min_eq_left (by omega)).symm
    have HM := Lib.hid hmin
    clear hmin
    go_enter Tryz.func166, Tryz.ntmps166
    go_wp2_with (first | (refine wpList_copy_splice rfl (.tmp 11) (.tmp 12) 30 30 rfl 5 Tryz.underlying30 sizeU8 _ _ 64 64 l.length c rfl rfl (w.heap.size + 1) 0 (bv (List.replicate 64 0)) 177 (heap_alloc2_new w _ _) (bv l) HM.out (fun hp => ⟨rfl, (hr.below (bA (bel1 w _) _)).src (by rw [bv_len] at hp; exact hp)⟩) (by rw [bv_len, bv_len, List.length_replicate]; omega) (bv_one _) (w.heap.size + 1) _ (Below.refl _ _) (Nat.le_refl _) ?_; intro w4 hg2 hb2; have HG2 : Hid (w4.heap[w.heap.size + 1]? = some (.cells (bv KN).toArray 177 (0, 0))) := Lib.hid (by have h := hg2.out; rw [splice_zero (by omega), HK.out] at h; exact h); have HG0 := Lib.hid (show w4.heap[w.heap.size]? = some (.cells (bv (List.replicate 64 0)).toArray 177 (0, 0)) from (hb2.block w.heap.size (by omega)).trans (heap_alloc2_old w _ _)); have HB := Lib.hid (bTg (bA (bel1 w _) _) hb2 (by omega)); clear hg2 hb2) | (refine wpList_load_row rfl 177 (.tmp 3) rfl (w.heap.size + 1) rfl 177 (bv KN).toArray (0, 0) _ HG2.out Tryz.underlying177 rfl ?_ ?_; (focus (rw [List.size_toArray, bv_len, HKL.out]; exact infoA64))) | (refine wpList_store_row rfl 177 (.tmp 2) _ rfl w.heap.size (bv KN).toArray rfl rfl 177 _ HG0.out ?_ ?_ (all_one (bv_one _)) ?_; (focus (rw [List.size_toArray, bv_len, HKL.out]; exact infoA64)); (focus (rw [List.size_toArray, bv_len, List.size_toArray, bv_len, HKL.out]; rfl))))
    refine bodyPost_ret (v := .agg (bv KN).toArray) (results_cell_row rfl _ _ w.heap.size 177 (bv KN).toArray (0, 0) _ rfl (setRow_heap _ _ _ _ _ _ HG0.out) Tryz.underlying177 rfl (by rw [List.size_toArray, bv_len, HKL.out]; exact infoA64)) rfl ⟨by rw [← HKN.out], setRow_below HB.out (Nat.le_refl _)⟩

theorem macSide_len (k : List Int) (by' : Int) (g : Nat) (A : Option Addr) (c n : Nat) (l : List Int) (w : World) (hn : l.length = n) (hk : k.length = 64) (hkb : ∀ x ∈ k, 0 ≤ x ∧ x < 256) (hg : w.heap[g]? = some (.cells (bv k).toArray 177 (0, 0))) (hy : 0 ≤ by' ∧ by' < 256) (hr : RdI w .u8 A l) (hl : n ≤ 70368744177000) (hb : ∀ x ∈ l, 0 ≤ x ∧ x < 256) :
    Calls Tryz.prog 167 #[.int .u8 by', .slice A n c, .pointer (some ⟨g, 0, none⟩)] w fun e w' => e = .returned (.agg (bv (sideN k by' l)).toArray) ∧ Below w.heap.size w w' := by
  subst hn
  exact macSide_any k by' g A c l w hk hkb hg hy hr hl hb
set_option maxHeartbeats 4000000 in
theorem macTag_any (A B : Option Addr) (c d : Nat) (s l : List Int) (w : World) (hr : RdI w .u8 A s) (hs : RdI w .u8 B l) (hsl : s.length ≤ 70368744177664) (hl : l.length ≤ 70368744177000) (hsb : ∀ x ∈ s, 0 ≤ x ∧ x < 256) (hlb : ∀ x ∈ l, 0 ≤ x ∧ x < 256) :
    Calls Tryz.prog 96 #[.slice A s.length c, .slice B l.length d] w fun e w' => e = .returned (.agg (bv (tagN s l)).toArray) ∧ Below w.heap.size w w' := by
  have hmf : ∀ (fn : Fn) (first cap : Array Value) (w : World), (Instr.makeFunc fn first cap).run Tryz.prog w = .ok (.func fn first cap) w := fun _ _ _ _ => rfl
  obtain ⟨K, hK⟩ : ∃ K, keyN s = K := ⟨_, rfl⟩
  have hKl : K.length = 64 := by rw [← hK]; exact keyN_len s
  have hKb : ∀ x ∈ K, 0 ≤ x ∧ x < 256 := by rw [← hK]; exact keyN_byte hsb
  obtain ⟨I, hI⟩ : ∃ I, sideN K 54 l = I := ⟨_, rfl⟩
  have hIl : I.length = 32 := by rw [← hI]; exact sumN_len _
  have hIb : ∀ x ∈ I, 0 ≤ x ∧ x < 256 := by rw [← hI]; exact sumN_byte _
  obtain ⟨T, hT⟩ : ∃ T, sideN K 92 I = T := ⟨_, rfl⟩
  have hTl : T.length = 32 := by rw [← hT]; exact sumN_len _
  have HTE : Hid (tagN s l = T) := Lib.hid (by unfold tagN; rw [hK, hI, hT])
  have HKL := Lib.hid hKl
  have HKB := Lib.hid hKb
  have HIL := Lib.hid hIl
  have HIB := Lib.hid hIb
  have HTL := Lib.hid hTl
  have HK := Lib.hid hK
  have HI := Lib.hid hI
  have HT := Lib.hid hT
  clear hK hKl hKb hI hIl hIb hT hTl
  obtain ⟨w0, hw0, g0, b0, z0⟩ := new_block w (.cells (bv (List.replicate 32 0)).toArray 102)
  go_enter Tryz.func96, Tryz.ntmps96
  go_wp2_with fail
  generalize hW0 : World.alloc _ _ = w00
  obtain rfl : w0 = w00 := by rw [← hw0, ← hW0]; kernel_rfl
  clear hw0 hW0
  refine (macBlock_any A c s w0 (hr.below b0) hsl hsb).mono ?_
  rintro e w1 ⟨rfl, b1⟩
  rw [HK.out]
  have g1 := (b1.block w.heap.size (by omega)).trans g0
  have B1 := bT b0 b1
  have s1 := (hs.below b0).below b1
  have z1 := b1.size
  obtain ⟨w2, hw2, k2, b2, z2⟩ := newRow w1 (bv (List.replicate 64 0)).toArray (bv K).toArray 177
  have HW2 := Lib.hid hw2
  have g2 := (b2.block w.heap.size (by omega)).trans g1
  have B2 := bT B1 b2
  have s2 := s1.below b2
  have HG2 := Lib.hid g2
  have HK2 := Lib.hid k2
  clear hw2 g0 g1 g2 k2 b0 b1 b2
  go_wp2_with (refine wpList_store_row rfl 177 _ _ rfl w1.heap.size (bv K).toArray rfl rfl 177 _ (heap_alloc_new w1 _) ?_ ?_ (all_one (bv_one _)) ?_; (focus (rw [List.size_toArray, bv_len, HKL.out]; exact infoA64)); (focus (show 64 = (bv K).toArray.size; rw [List.size_toArray, bv_len, HKL.out])); generalize hW2 : World.setRow _ _ _ = w22; obtain rfl : w2 = w22 := (by rw [← HW2.out, ← hW2]; kernel_rfl))
  refine (macSide_any K 54 w1.heap.size B d l w2 HKL.out HKB.out HK2.out (by decide) s2 hl hlb).mono ?_
  rintro e w3 ⟨rfl, b3⟩
  rw [HI.out]
  have k3 := (b3.block w1.heap.size (by omega)).trans HK2.out
  have g3 := (b3.block w.heap.size (by omega)).trans HG2.out
  have B3 := bT B2 b3
  have z3 := b3.size
  obtain ⟨w4, hw4, i4, b4, z4⟩ := newRow w3 (bv (List.replicate 32 0)).toArray (bv I).toArray 102
  have HW4 := Lib.hid hw4
  have k4 := (b4.block w1.heap.size (by omega)).trans k3
  have g4 := (b4.block w.heap.size (by omega)).trans g3
  have B4 := bT B3 b4
  have HG4 := Lib.hid g4
  have HK4 := Lib.hid k4
  have HI4 := Lib.hid i4
  clear hw4 k3 g3 k4 g4 i4 b3 b4 s1 s2 B1 B2 B3 HG2 HK2
  go_wp2_with (refine wpList_store_row rfl 102 _ _ rfl w3.heap.size (bv I).toArray rfl rfl 102 _ (heap_alloc_new w3 _) ?_ ?_ (all_one (bv_one _)) ?_; (focus (rw [List.size_toArray, bv_len, HIL.out]; exact info32)); (focus (show 32 = (bv I).toArray.size; rw [List.size_toArray, bv_len, HIL.out])); generalize hW4 : World.setRow _ _ _ = w44; obtain rfl : w4 = w44 := (by rw [← HW4.out, ← hW4]; kernel_rfl))
  refine (macSide_len K 92 w1.heap.size (some ⟨w3.heap.size, 0, none⟩) 32 32 I w4 HIL.out HKL.out HKB.out HK4.out (by decide) (rd_row HI4.out) (by decide) HIB.out).mono ?_
  rintro e w5 ⟨rfl, b5⟩
  rw [HT.out]
  have g5 := (b5.block w.heap.size (by omega)).trans HG4.out
  have HG5 := Lib.hid g5
  have HB5 := Lib.hid (bT B4 b5)
  clear g5 b5 B4
  go_wp2_with (refine wpList_store_row rfl 102 (.tmp 4) _ rfl w.heap.size (bv T).toArray rfl rfl 102 _ HG5.out ?_ ?_ (all_one (bv_one _)) ?_; (focus (rw [List.size_toArray, bv_len, HTL.out]; exact info32)); (focus (rw [List.size_toArray, bv_len, List.size_toArray, bv_len, HTL.out]; rfl)))
  refine bodyPost_ret (v := .agg (bv T).toArray) (results_cell_row rfl _ _ w.heap.size 102 (bv T).toArray (0, 0) _ rfl (setRow_heap _ _ _ _ _ _ HG5.out) Tryz.underlying102 rfl (by rw [List.size_toArray, bv_len, HTL.out]; exact info32)) rfl ⟨by rw [← HTE.out], setRow_below HB5.out (Nat.le_refl _)⟩

theorem macTag_len (A B : Option Addr) (c d n : Nat) (s l : List Int) (w : World) (hn : l.length = n) (hr : RdI w .u8 A s) (hs : RdI w .u8 B l) (hsl : s.length ≤ 70368744177664) (hl : n ≤ 70368744177000) (hsb : ∀ x ∈ s, 0 ≤ x ∧ x < 256) (hlb : ∀ x ∈ l, 0 ≤ x ∧ x < 256) :
    Calls Tryz.prog 96 #[.slice A s.length c, .slice B n d] w fun e w' => e = .returned (.agg (bv (tagN s l)).toArray) ∧ Below w.heap.size w w' := by
  subst hn
  exact macTag_any A B c d s l w hr hs hsl hl hsb hlb
set_option maxHeartbeats 4000000 in
theorem bcTag_any (A B : Option Addr) (c d : Nat) (s l : List Int) (w : World) (hr : RdI w .u8 A s) (hs : RdI w .u8 B l) (hsl : s.length ≤ 70368744177664) (hl : l.length ≤ 70368744176000) (hsb : ∀ x ∈ s, 0 ≤ x ∧ x < 256) (hlb : ∀ x ∈ l, 0 ≤ x ∧ x < 256) :
    Calls Tryz.prog 83 #[.slice A s.length c, .slice B l.length d] w fun e w' => e = .returned (.agg (bv (tagN s (66 :: l))).toArray) ∧ Below w.heap.size w w' := by
  obtain ⟨i0, hi, hz0, hz1, hz2⟩ := info_parts infoB8
  obtain ⟨T, hT⟩ : ∃ T, tagN s (66 :: l) = T := ⟨_, rfl⟩
  have hTl : T.length = 32 := by rw [← hT]; exact tagN_len _ _
  have HTL := Lib.hid hTl
  have HT := Lib.hid hT
  clear hT hTl
  go_enter Tryz.func83, Tryz.ntmps83
  go_wp2_with (at_builtin; refine wpL_app_in (k := .u8) rfl _ _ 30 rfl 5 i0 (.int .u8 0) 1 Tryz.underlying30 hi hz0 hz1 hz2 rfl ⟨w.heap.size + 1, 0, none⟩ [66] 1 rfl rfl (RdI.lit' (l := [66]) (by simp)) _ _ l rfl ((hs.below (bel1 w _)).below (bel1 _ _)) ?_ ?_ ?_; (focus (unfold maxLen; simp; omega)); (focus (simp; omega)); intro A3 c3 w3 hr3 hc3 hb3; have hg3 : w3.heap[w.heap.size]? = some (.cells (bv (List.replicate 32 0)).toArray 102 (0, 0)) := (hb3.block w.heap.size (by simp; omega)).trans ((heap_alloc2_old w _ _)); have hB3 := bT (bA (bel1 w _) _) hb3; have hr3' := (hr.below (bA (bel1 w _) _)).below hb3; clear hb3)
  have HG3 := Lib.hid hg3
  have HB3 := Lib.hid hB3
  have hz3 : w.heap.size < w3.heap.size := (Array.getElem?_eq_some_iff.1 hg3).1
  obtain ⟨L, hL⟩ : ∃ L, [66] ++ l = L := ⟨_, rfl⟩
  have hLl : L.length = l.length + 1 := by rw [← hL]; simp
  have hLb : ∀ x ∈ L, 0 ≤ x ∧ x < 256 := by
    rw [← hL]; intro x hx
    rcases List.mem_append.1 hx with hx | hx
    · simp at hx; subst hx; omega
    · exact hlb x hx
  have HTL' : Hid (tagN s L = T) := Lib.hid (by rw [← hL]; exact HT.out)
  rw [hL] at hr3
  refine (macTag_len A A3 c c3 (l.length + 1) s L w3 hLl hr3' hr3 hsl (by omega) hsb hLb).mono ?_
  rintro e w5 ⟨rfl, b5⟩
  rw [HTL'.out]
  have g5 := (b5.block w.heap.size hz3).trans HG3.out
  have HG5 := Lib.hid g5
  have HB5 := Lib.hid (bT HB3.out b5)
  clear g5 b5 hL hLb
  go_wp2_with (refine wpList_store_row rfl 102 (.tmp 4) _ rfl w.heap.size (bv T).toArray rfl rfl 102 _ HG5.out ?_ ?_ (all_one (bv_one _)) ?_; (focus (rw [List.size_toArray, bv_len, HTL.out]; exact info32)); (focus (rw [List.size_toArray, bv_len, List.size_toArray, bv_len, HTL.out]; rfl)))
  refine bodyPost_ret (v := .agg (bv T).toArray) (results_cell_row rfl _ _ w.heap.size 102 (bv T).toArray (0, 0) _ rfl (setRow_heap _ _ _ _ _ _ HG5.out) Tryz.underlying102 rfl (by rw [List.size_toArray, bv_len, HTL.out]; exact info32)) rfl ⟨by rw [HT.out], setRow_below HB5.out (Nat.le_refl _)⟩
end Go.Proofs.YtnbghgenaolfgaaGreat

namespace Go.Proofs.YtnbghgenaolfgaaGreat
open Go.RowKit
set_option linter.unusedVariables false
set_option maxRecDepth 100000
set_option linter.unusedSimpArgs false

def S45 : List Int := [48, 49, 50, 51, 52, 53, 54, 55, 56, 57, 65, 66, 67, 68, 69, 70, 71, 72, 73, 74, 75, 76, 77, 78, 79, 80, 81, 82, 83, 84, 85, 86, 87, 88, 89, 90, 32, 36, 37, 42, 43, 45, 46, 47, 58]
/-- The sign of a number. -/
def sg45 (n : Int) : Int := S45.getD n.toNat 0
def dgGo (c : Int) : List Int → Int → Int
  | [], _ => -1
  | x :: l, k => if x = c then k else dgGo c l (k + 1)
/-- The number of a sign; -1, if it is none. -/
def dg45 (c : Int) : Int := dgGo c S45 0
def fortyPut : List Int → List Int
  | [] => []
  | [x] => [sg45 (x % 45), sg45 (x / 45)]
  | x :: y :: t => sg45 ((256 * x + y) % 45) :: sg45 ((256 * x + y) / 45 % 45) :: sg45 ((256 * x + y) / 45 / 45) :: fortyPut t
def bad3 (a b c : Int) : Bool := decide (dg45 a < 0) || decide (dg45 b < 0) || decide (dg45 c < 0)
def bad2 (a b : Int) : Bool := decide (dg45 a < 0) || decide (dg45 b < 0)
def n3 (a b c : Int) : Int := dg45 a + 45 * dg45 b + 2025 * dg45 c
def n2 (a b : Int) : Int := dg45 a + 45 * dg45 b
def fortyGo : List Int → List Int → List Int × Int
  | [], acc => (acc, 0)
  | [_], _ => ([], 14)
  | [a, b], acc => if bad2 a b then ([], 7) else if 255 < n2 a b then ([], 23) else (acc ++ [n2 a b], 0)
  | a :: b :: c :: t, acc => if bad3 a b c then ([], 7) else if 65535 < n3 a b c then ([], 23) else fortyGo t (acc ++ [n3 a b c / 256, n3 a b c % 256])
def fortyGet (s : List Int) : List Int × Int := if s.length % 3 = 1 then ([], 14) else fortyGo s []

theorem sg_dg : ∀ n : Fin 45, dg45 (sg45 (n.val : Int)) = (n.val : Int) := by decide
theorem sg_dg' {n : Int} (h0 : 0 ≤ n) (h : n < 45) : dg45 (sg45 n) = n := by
  have := sg_dg ⟨n.toNat, by omega⟩
  simpa [show ((n.toNat : Nat) : Int) = n by omega] using this
theorem dgGo_sg : ∀ (l : List Int) (c k : Int), 0 ≤ k → dgGo c l k < 0 ∨ (k ≤ dgGo c l k ∧ dgGo c l k < k + l.length ∧ l.getD (dgGo c l k - k).toNat 0 = c)
  | [], c, k, h => .inl (by simp [dgGo])
  | x :: l, c, k, h => by
    unfold dgGo
    by_cases e : x = c
    · rw [if_pos e]; right; refine ⟨by omega, by simp; omega, by simp [e]⟩
    · rw [if_neg e]
      rcases dgGo_sg l c (k + 1) (by omega) with h | ⟨h1, h2, h3⟩
      · exact .inl h
      · right
        refine ⟨by omega, by simp; omega, ?_⟩
        obtain ⟨m, hm⟩ : ∃ m : Nat, dgGo c l (k + 1) - (k + 1) = m := ⟨(dgGo c l (k + 1) - (k + 1)).toNat, by omega⟩
        have e2 : (dgGo c l (k + 1) - k).toNat = m + 1 := by omega
        rw [e2, List.getD_cons_succ, ← h3, hm]; simp
theorem dg_sg {c : Int} (h : ¬ dg45 c < 0) : sg45 (dg45 c) = c ∧ 0 ≤ dg45 c ∧ dg45 c < 45 := by
  rcases dgGo_sg S45 c 0 (by omega) with h' | ⟨h1, h2, h3⟩
  · exact absurd h' h
  · refine ⟨?_, h1, ?_⟩
    · unfold sg45; unfold dg45; simpa using h3
    · have : S45.length = 45 := by decide
      unfold dg45; omega
theorem dg_le (c : Int) : dg45 c < 45 := by
  by_cases h : dg45 c < 0
  · omega
  · exact (dg_sg h).2.2
theorem sg_byte (n : Int) : 0 ≤ sg45 n ∧ sg45 n < 256 := by
  unfold sg45
  have h : ∀ x ∈ S45, 0 ≤ x ∧ x < 256 := by decide
  rw [List.getD_eq_getElem?_getD]
  cases e : S45[n.toNat]? with
  | none => simp
  | some x => simpa using h x (List.mem_of_getElem? e)

theorem fortyPut_byte : ∀ (l : List Int), ∀ x ∈ fortyPut l, 0 ≤ x ∧ x < 256
  | [], x, h => by simp [fortyPut] at h
  | [y], x, h => by simp [fortyPut] at h; rcases h with rfl | rfl <;> exact sg_byte _
  | y :: z :: t, x, h => by
    simp only [fortyPut, List.mem_cons] at h
    rcases h with rfl | rfl | rfl | h
    · exact sg_byte _
    · exact sg_byte _
    · exact sg_byte _
    · exact fortyPut_byte t x h
theorem fortyPut_len : ∀ (l : List Int), (fortyPut l).length = l.length + (l.length + 1) / 2
  | [] => by simp [fortyPut]
  | [y] => by simp [fortyPut]
  | y :: z :: t => by simp only [fortyPut, List.length_cons, fortyPut_len t]; omega
theorem n3_of {x y : Int} (hx : 0 ≤ x ∧ x < 256) (hy : 0 ≤ y ∧ y < 256) : bad3 (sg45 ((256 * x + y) % 45)) (sg45 ((256 * x + y) / 45 % 45)) (sg45 ((256 * x + y) / 45 / 45)) = false ∧ n3 (sg45 ((256 * x + y) % 45)) (sg45 ((256 * x + y) / 45 % 45)) (sg45 ((256 * x + y) / 45 / 45)) = 256 * x + y := by
  have e1 := sg_dg' (n := (256 * x + y) % 45) (by omega) (by omega)
  have e2 := sg_dg' (n := (256 * x + y) / 45 % 45) (by omega) (by omega)
  have e3 := sg_dg' (n := (256 * x + y) / 45 / 45) (by omega) (by omega)
  unfold bad3 n3
  rw [e1, e2, e3]
  refine ⟨?_, by omega⟩
  simp only [Bool.or_eq_false_iff, decide_eq_false_iff_not]
  omega
theorem n2_of {x : Int} (hx : 0 ≤ x ∧ x < 256) : bad2 (sg45 (x % 45)) (sg45 (x / 45)) = false ∧ n2 (sg45 (x % 45)) (sg45 (x / 45)) = x := by
  have e1 := sg_dg' (n := x % 45) (by omega) (by omega)
  have e2 := sg_dg' (n := x / 45) (by omega) (by omega)
  unfold bad2 n2
  rw [e1, e2]
  refine ⟨?_, by omega⟩
  simp only [Bool.or_eq_false_iff, decide_eq_false_iff_not]
  omega
theorem fortyGo_put : ∀ (l acc : List Int), (∀ x ∈ l, 0 ≤ x ∧ x < 256) → fortyGo (fortyPut l) acc = (acc ++ l, 0)
  | [], acc, h => by simp [fortyPut, fortyGo]
  | [x], acc, h => by
    obtain ⟨e1, e2⟩ := n2_of (h x (by simp))
    have hx := h x (by simp)
    simp only [fortyPut, fortyGo]
    rw [e1, e2]
    simp; omega
  | x :: y :: t, acc, h => by
    have hx := h x (by simp)
    have hy := h y (by simp)
    obtain ⟨e1, e2⟩ := n3_of hx hy
    have ih := fortyGo_put t (acc ++ [x, y]) (fun z hz => h z (by simp [hz]))
    simp only [fortyPut, fortyGo]
    rw [e1, e2]
    have d1 : (256 * x + y) / 256 = x := by omega
    have d2 : (256 * x + y) % 256 = y := by omega
    rw [d1, d2, ih, if_neg (by simp), if_neg (by omega)]
    simp
/-- What was put is got again. -/
theorem fortyGet_put {l : List Int} (h : ∀ x ∈ l, 0 ≤ x ∧ x < 256) : fortyGet (fortyPut l) = (l, 0) := by
  unfold fortyGet
  rw [if_neg (by rw [fortyPut_len]; omega), fortyGo_put l [] h]
  simp
theorem fortyGo_ok : ∀ (s acc l : List Int), fortyGo s acc = (l, 0) → ∃ m, l = acc ++ m ∧ fortyPut m = s ∧ (∀ x ∈ m, 0 ≤ x ∧ x < 256)
  | [], acc, l, h => by simp [fortyGo] at h; exact ⟨[], by simp [h], rfl, by simp⟩
  | [_], acc, l, h => by simp [fortyGo] at h
  | [a, b], acc, l, h => by
    simp only [fortyGo] at h
    cases hb : bad2 a b with
    | true => rw [hb] at h; simp at h
    | false =>
      rw [hb] at h
      by_cases h2 : 255 < n2 a b
      · simp [h2] at h
      · simp [h2] at h
        unfold bad2 at hb
        simp only [Bool.or_eq_false_iff, decide_eq_false_iff_not] at hb
        obtain ⟨a1, a2, a3⟩ := dg_sg hb.1
        obtain ⟨b1, b2, b3⟩ := dg_sg hb.2
        refine ⟨[n2 a b], h.symm, ?_, ?_⟩
        · unfold n2
          simp only [fortyPut]
          rw [show (dg45 a + 45 * dg45 b) % 45 = dg45 a by omega, show (dg45 a + 45 * dg45 b) / 45 = dg45 b by omega, a1, b1]
        · intro x hx; simp at hx; subst hx; unfold n2 at *; omega
  | a :: b :: c :: t, acc, l, h => by
    simp only [fortyGo] at h
    cases hb : bad3 a b c with
    | true => rw [hb] at h; simp at h
    | false =>
      rw [hb] at h
      by_cases h2 : 65535 < n3 a b c
      · simp [h2] at h
      · simp only [Bool.false_eq_true, if_false, h2] at h
        obtain ⟨m, hm, hp, hq⟩ := fortyGo_ok t _ l h
        unfold bad3 at hb
        simp only [Bool.or_eq_false_iff, decide_eq_false_iff_not] at hb
        obtain ⟨a1, a2, a3⟩ := dg_sg hb.1.1
        obtain ⟨b1, b2, b3⟩ := dg_sg hb.1.2
        obtain ⟨c1, c2, c3⟩ := dg_sg hb.2
        have n0 : 0 ≤ n3 a b c := by unfold n3; omega
        refine ⟨n3 a b c / 256 :: n3 a b c % 256 :: m, by simp [hm], ?_, ?_⟩
        · simp only [fortyPut]
          have e : 256 * (n3 a b c / 256) + n3 a b c % 256 = n3 a b c := by omega
          rw [e, hp]
          unfold n3
          rw [show (dg45 a + 45 * dg45 b + 2025 * dg45 c) % 45 = dg45 a by omega, show (dg45 a + 45 * dg45 b + 2025 * dg45 c) / 45 % 45 = dg45 b by omega, show (dg45 a + 45 * dg45 b + 2025 * dg45 c) / 45 / 45 = dg45 c by omega, a1, b1, c1]
        · intro x hx
          simp only [List.mem_cons] at hx
          rcases hx with rfl | rfl | hx
          · omega
          · omega
          · exact hq x hx
/-- What was got is put as it was, and is of bytes. -/
theorem fortyPut_get {s l : List Int} (h : fortyGet s = (l, 0)) : fortyPut l = s ∧ ∀ x ∈ l, 0 ≤ x ∧ x < 256 := by
  unfold fortyGet at h
  split at h
  · simp at h
  · obtain ⟨m, hm, hp, hq⟩ := fortyGo_ok s [] l h
    simp at hm
    subst hm
    exact ⟨hp, hq⟩
theorem fortyGo_fail : ∀ (s acc : List Int), (fortyGo s acc).2 ≠ 0 → (fortyGo s acc).1 = []
  | [], acc, h => by simp [fortyGo] at h
  | [_], acc, h => by simp [fortyGo]
  | [a, b], acc, h => by
    simp only [fortyGo] at h ⊢
    split
    · rfl
    · split
      · rfl
      · rename_i h1 h2; simp [h1, h2] at h
  | a :: b :: c :: t, acc, h => by
    simp only [fortyGo] at h ⊢
    split
    · rfl
    · split
      · rfl
      · rename_i h1 h2; rw [if_neg h1, if_neg h2] at h; exact fortyGo_fail t _ h
theorem fortyGet_fail {s : List Int} (h : (fortyGet s).2 ≠ 0) : (fortyGet s).1 = [] := by
  unfold fortyGet at h ⊢
  split
  · rfl
  · rename_i h1; rw [if_neg h1] at h; exact fortyGo_fail s [] h
end Go.Proofs.YtnbghgenaolfgaaGreat

namespace Go.Proofs.YtnbghgenaolfgaaGreat
open Go.RowKit Go.Shelf
set_option linter.unusedVariables false
set_option maxRecDepth 100000
set_option linter.unusedSimpArgs false

theorem groups_any (A : Option Addr) (n c : Nat) (sz : Int) (w : World) : Calls Tryz.prog 204 #[.slice A n c, .int .i64 sz] w fun e w' => e = .returned (.func (.func 235) #[] #[.pointer (some ⟨w.heap.size, 0, none⟩), .pointer (some ⟨w.heap.size + 1, 0, none⟩)]) ∧ (w.alloc (.cells #[.slice A n c] 30)).alloc (.cells #[.int .i64 sz] 3) = w' := by
  have hmf : ∀ (fn : Fn) (first cap : Array Value) (w : World), (Instr.makeFunc fn first cap).run Tryz.prog w = .ok (.func fn first cap) w := fun _ _ _ _ => rfl
  go_enter Tryz.func204, Tryz.ntmps204
  go_wp2
  go_ret
  exact ⟨rfl, rfl⟩

def lenCell (W : World) (b : Nat) : Nat := match W.cell? ⟨b, 0, none⟩ with
  | some (.slice _ n _) => n
  | _ => 0
theorem lenCell_boxed {W : World} {b : Nat} {t : TypeId} {A : Option Addr} {n c : Nat} (h : Boxed W b t (.slice A n c)) : lenCell W b = n := by unfold lenCell; rw [h.cell]

theorem map_addF {s : Nat} (A : Option Addr) : A.map (fun x : Addr => x.add (s + 1)) = A.map (fun x : Addr => (⟨x.block, x.off + (s + 1), none⟩ : Addr)) := by cases A <;> simp [Addr.add]
attribute [local go_sem] Oper.semAt_some
set_option maxHeartbeats 8000000 in
theorem fiter2_any (n L Bl Bs N : Nat) (hn : 1 ≤ n) (A : Option Addr) (c : Nat) (l : List Int) (w0 : World) (hr : RdI w0 .u8 A l) (hlc : l.length ≤ c) (hc9 : c ≤ 9223372036854775807) (hN : N = (l.length + 1) / 2)
    (J : Nat → World → Prop) (Jx : World → Prop) (hJb : ∀ k W, J k W → Below w0.heap.size w0 W ∧ Boxed W Bs 3 (.int .i64 2)) (hJs : ∀ k W v, J k W → J k (W.setCell ⟨Bl, 0, none⟩ v))
    (hY : ∀ (k : Nat) (A' : Option Addr) (c' m : Nat) (q : List Int) (W : World), J k W → Boxed W Bl 30 (.slice A' q.length c') → RdI w0 .u8 A' q → l.drop (2 * k) = q → 0 < q.length → m = min 2 q.length →
      YieldAt Fence.wide (n - 1) Tryz.prog L #[.slice A' m c'] W fun e W' => (e = .returned (.bool true) ∧ J (k + 1) W' ∧ Boxed W' Bl 30 (.slice A' q.length c')) ∨ (e = .returned (.bool false) ∧ Jx W'))
    (W : World) (h0 : J 0 W) (hbl : Boxed W Bl 30 (.slice A l.length c)) :
    CallsIn Fence.wide n Tryz.prog 235 #[.func (.yield L) #[] #[], .pointer (some ⟨Bl, 0, none⟩), .pointer (some ⟨Bs, 0, none⟩)] W fun e W' => (∃ v, e = .returned v) ∧ (J N W' ∨ Jx W') := by
  have HN := Lib.hid hN
  clear hN
  refine callsIn_of_wp Tryz.func235 rfl trivial ?_ rfl
  simp only [Tryz.ntmps235, List.size_toArray, List.length_cons, List.length_nil, Nat.reduceAdd, Nat.reduceSub, Array.replicate_succ, Array.replicate_zero, List.push_toArray, List.append_toArray, List.nil_append, List.cons_append]
  gi_wp2
  gi_loopw [4] (fun _ wr => ∃ (k : Nat) (A' : Option Addr) (c' : Nat) (q : List Int), J k wr ∧ Boxed wr Bl 30 (.slice A' q.length c') ∧ q.length ≤ c' ∧ c' ≤ 9223372036854775807 ∧ RdI w0 .u8 A' q ∧ Hid (l.drop (2 * k) = q) ∧ 2 * k < l.length + 2) (fun _ wr => lenCell wr Bl)
  case atStart => exact ⟨0, A, c, l, h0, hbl, hlc, hc9, hr, Lib.hid (by simp), by omega⟩
  case round =>
    obtain ⟨k, A', c', q, hJ, hB, hcl, hcc, hra, hq, hkl⟩ := hrel
    have hb1 := hB.cell
    have hcw2 := (hJb k wr hJ).2.cell
    by_cases hp : 0 < q.length
    · have d1 : (0 : Int) < (q.length : Int) := by omega
      have hkn : 2 * k + q.length = l.length := by
        have h := congrArg List.length hq.out
        rw [List.length_drop] at h
        omega
      by_cases hs : 2 ≤ q.length
      · have m1 : min (2 : Int) (q.length : Int) = 2 := by omega
        have s1 : (2 : Int) ≤ (c' : Int) := by omega
        have s2 : (2 : Int) ≤ (q.length : Int) := by omega
        obtain ⟨fn, tmps, assign, body, hy, hR⟩ := hY k A' c' 2 q wr hJ hB hra hq.out hp (by omega)
        have HKN := Lib.hid hkn
        clear hkn
        by_cases hct : c' = 2
        · subst hct
          gi_wp2
          refine hR.mono ?_
          rintro e W3 (⟨rfl, hJ3, hb3⟩ | ⟨rfl, hx3⟩)
          · have hJ4 := hJs _ _ (.slice A' 0 0) hJ3
            have hfz := hb3.frozen
            have hc3 := hb3.cell
            have hcw3 := (hJb _ W3 hJ3).2.cell
            have hb4 := hb3.set (.slice A' 0 0)
            have HJ4 := Lib.hid hJ4
            have HB4 := Lib.hid hb4
            clear hJ4 hb4 hJ3
            gi_wp2
            refine ⟨⟨k + 1, A', 0, q.drop q.length, HJ4.out, by rw [List.length_drop, Nat.sub_self]; exact HB4.out, by rw [List.length_drop]; omega, by omega, (by rw [List.drop_length]; exact RdI.nil _ _ _), Lib.hid (by rw [List.drop_length]; exact List.drop_eq_nil_of_le (by have := HKN.out; omega)), by have := HKN.out; omega⟩, by rw [lenCell_boxed HB4.out, lenCell_boxed hB]; omega⟩
          · gi_wp2
            refine bodyPost_ret (results_none rfl _ _ _) rfl ?_
            exact ⟨⟨_, rfl⟩, .inr hx3⟩
        · gi_wp2
          refine hR.mono ?_
          rintro e W3 (⟨rfl, hJ3, hb3⟩ | ⟨rfl, hx3⟩)
          · have hJ4 := hJs _ _ (.slice (A'.map fun x => (⟨x.block, x.off + 2, none⟩ : Addr)) (q.length - 2) (c' - 2)) hJ3
            have hfz := hb3.frozen
            have hc3 := hb3.cell
            have hcw3 := (hJb _ W3 hJ3).2.cell
            have hb4 := hb3.set (.slice (A'.map fun x => (⟨x.block, x.off + 2, none⟩ : Addr)) (q.length - 2) (c' - 2))
            have HJ4 := Lib.hid hJ4
            have HB4 := Lib.hid hb4
            clear hJ4 hb4 hJ3
            gi_wp2
            refine ⟨⟨k + 1, (A'.map fun x => (⟨x.block, x.off + 2, none⟩ : Addr)), (c' - 2), q.drop 2, HJ4.out, by rw [List.length_drop]; exact HB4.out, by rw [List.length_drop]; omega, by omega, (by have h := hra.cut (c := c') 2 (by omega); rw [if_neg hct, map_addF] at h; exact h), Lib.hid (by have h := hq.out; rw [← h, List.drop_drop, show 2 * k + 2 = 2 * (k + 1) by omega]), by have := HKN.out; omega⟩, by rw [lenCell_boxed HB4.out, lenCell_boxed hB]; omega⟩
          · gi_wp2
            refine bodyPost_ret (results_none rfl _ _ _) rfl ?_
            exact ⟨⟨_, rfl⟩, .inr hx3⟩
      · have m1 : min (2 : Int) (q.length : Int) = (q.length : Int) := by omega
        have s1 : (q.length : Int) ≤ (c' : Int) := by omega
        obtain ⟨fn, tmps, assign, body, hy, hR⟩ := hY k A' c' q.length q wr hJ hB hra hq.out hp (by omega)
        have HKN := Lib.hid hkn
        clear hkn
        by_cases hct : c' = q.length
        · subst hct
          gi_wp2
          refine hR.mono ?_
          rintro e W3 (⟨rfl, hJ3, hb3⟩ | ⟨rfl, hx3⟩)
          · have hJ4 := hJs _ _ (.slice A' 0 0) hJ3
            have hfz := hb3.frozen
            have hc3 := hb3.cell
            have hcw3 := (hJb _ W3 hJ3).2.cell
            have hb4 := hb3.set (.slice A' 0 0)
            have HJ4 := Lib.hid hJ4
            have HB4 := Lib.hid hb4
            clear hJ4 hb4 hJ3
            gi_wp2
            refine ⟨⟨k + 1, A', 0, q.drop q.length, HJ4.out, by rw [List.length_drop, Nat.sub_self]; exact HB4.out, by rw [List.length_drop]; omega, by omega, (by rw [List.drop_length]; exact RdI.nil _ _ _), Lib.hid (by rw [List.drop_length]; exact List.drop_eq_nil_of_le (by have := HKN.out; omega)), by have := HKN.out; omega⟩, by rw [lenCell_boxed HB4.out, lenCell_boxed hB]; omega⟩
          · gi_wp2
            refine bodyPost_ret (results_none rfl _ _ _) rfl ?_
            exact ⟨⟨_, rfl⟩, .inr hx3⟩
        · gi_wp2
          refine hR.mono ?_
          rintro e W3 (⟨rfl, hJ3, hb3⟩ | ⟨rfl, hx3⟩)
          · have hJ4 := hJs _ _ (.slice (A'.map fun x => x.add q.length) 0 (c' - q.length)) hJ3
            have hfz := hb3.frozen
            have hc3 := hb3.cell
            have hcw3 := (hJb _ W3 hJ3).2.cell
            have hb4 := hb3.set (.slice (A'.map fun x => x.add q.length) 0 (c' - q.length))
            have HJ4 := Lib.hid hJ4
            have HB4 := Lib.hid hb4
            clear hJ4 hb4 hJ3
            gi_wp2
            refine ⟨⟨k + 1, (A'.map fun x => x.add q.length), (c' - q.length), q.drop q.length, HJ4.out, by rw [List.length_drop, Nat.sub_self]; exact HB4.out, by rw [List.length_drop]; omega, by omega, (by rw [List.drop_length]; exact RdI.nil _ _ _), Lib.hid (by rw [List.drop_length]; exact List.drop_eq_nil_of_le (by have := HKN.out; omega)), by have := HKN.out; omega⟩, by rw [lenCell_boxed HB4.out, lenCell_boxed hB]; omega⟩
          · gi_wp2
            refine bodyPost_ret (results_none rfl _ _ _) rfl ?_
            exact ⟨⟨_, rfl⟩, .inr hx3⟩
    · have hz : q = [] := List.eq_nil_of_length_eq_zero (by omega)
      have hkn : l.length ≤ 2 * k := by
        have h := congrArg List.length hq.out
        rw [List.length_drop, hz] at h
        simp at h
        omega
      have HE := Lib.hid (show k = N by have := HN.out; omega)
      have HJ := Lib.hid hJ
      have d1 : ¬ (0 : Int) < (q.length : Int) := by omega
      clear hJ hz hkn
      gi_wp2
      go_end0
      exact ⟨⟨_, rfl⟩, .inl (by have h := HJ.out; rw [HE.out] at h; exact h)⟩


set_option maxHeartbeats 8000000 in
theorem fiter3_any (n L Bl Bs N : Nat) (hn : 1 ≤ n) (A : Option Addr) (c : Nat) (l : List Int) (w0 : World) (hr : RdI w0 .u8 A l) (hlc : l.length ≤ c) (hc9 : c ≤ 9223372036854775807) (hN : N = (l.length + 2) / 3)
    (J : Nat → World → Prop) (Jx : World → Prop) (hJb : ∀ k W, J k W → Below w0.heap.size w0 W ∧ Boxed W Bs 3 (.int .i64 3)) (hJs : ∀ k W v, J k W → J k (W.setCell ⟨Bl, 0, none⟩ v))
    (hY : ∀ (k : Nat) (A' : Option Addr) (c' m : Nat) (q : List Int) (W : World), J k W → Boxed W Bl 30 (.slice A' q.length c') → RdI w0 .u8 A' q → l.drop (3 * k) = q → 0 < q.length → m = min 3 q.length →
      YieldAt Fence.wide (n - 1) Tryz.prog L #[.slice A' m c'] W fun e W' => (e = .returned (.bool true) ∧ J (k + 1) W' ∧ Boxed W' Bl 30 (.slice A' q.length c')) ∨ (e = .returned (.bool false) ∧ Jx W'))
    (W : World) (h0 : J 0 W) (hbl : Boxed W Bl 30 (.slice A l.length c)) :
    CallsIn Fence.wide n Tryz.prog 235 #[.func (.yield L) #[] #[], .pointer (some ⟨Bl, 0, none⟩), .pointer (some ⟨Bs, 0, none⟩)] W fun e W' => (∃ v, e = .returned v) ∧ (J N W' ∨ Jx W') := by
  have HN := Lib.hid hN
  clear hN
  refine callsIn_of_wp Tryz.func235 rfl trivial ?_ rfl
  simp only [Tryz.ntmps235, List.size_toArray, List.length_cons, List.length_nil, Nat.reduceAdd, Nat.reduceSub, Array.replicate_succ, Array.replicate_zero, List.push_toArray, List.append_toArray, List.nil_append, List.cons_append]
  gi_wp2
  gi_loopw [4] (fun _ wr => ∃ (k : Nat) (A' : Option Addr) (c' : Nat) (q : List Int), J k wr ∧ Boxed wr Bl 30 (.slice A' q.length c') ∧ q.length ≤ c' ∧ c' ≤ 9223372036854775807 ∧ RdI w0 .u8 A' q ∧ Hid (l.drop (3 * k) = q) ∧ 3 * k < l.length + 3) (fun _ wr => lenCell wr Bl)
  case atStart => exact ⟨0, A, c, l, h0, hbl, hlc, hc9, hr, Lib.hid (by simp), by omega⟩
  case round =>
    obtain ⟨k, A', c', q, hJ, hB, hcl, hcc, hra, hq, hkl⟩ := hrel
    have hb1 := hB.cell
    have hcw2 := (hJb k wr hJ).2.cell
    by_cases hp : 0 < q.length
    · have d1 : (0 : Int) < (q.length : Int) := by omega
      have hkn : 3 * k + q.length = l.length := by
        have h := congrArg List.length hq.out
        rw [List.length_drop] at h
        omega
      by_cases hs : 3 ≤ q.length
      · have m1 : min (3 : Int) (q.length : Int) = 3 := by omega
        have s1 : (3 : Int) ≤ (c' : Int) := by omega
        have s2 : (3 : Int) ≤ (q.length : Int) := by omega
        obtain ⟨fn, tmps, assign, body, hy, hR⟩ := hY k A' c' 3 q wr hJ hB hra hq.out hp (by omega)
        have HKN := Lib.hid hkn
        clear hkn
        by_cases hct : c' = 3
        · subst hct
          gi_wp2
          refine hR.mono ?_
          rintro e W3 (⟨rfl, hJ3, hb3⟩ | ⟨rfl, hx3⟩)
          · have hJ4 := hJs _ _ (.slice A' 0 0) hJ3
            have hfz := hb3.frozen
            have hc3 := hb3.cell
            have hcw3 := (hJb _ W3 hJ3).2.cell
            have hb4 := hb3.set (.slice A' 0 0)
            have HJ4 := Lib.hid hJ4
            have HB4 := Lib.hid hb4
            clear hJ4 hb4 hJ3
            gi_wp2
            refine ⟨⟨k + 1, A', 0, q.drop q.length, HJ4.out, by rw [List.length_drop, Nat.sub_self]; exact HB4.out, by rw [List.length_drop]; omega, by omega, (by rw [List.drop_length]; exact RdI.nil _ _ _), Lib.hid (by rw [List.drop_length]; exact List.drop_eq_nil_of_le (by have := HKN.out; omega)), by have := HKN.out; omega⟩, by rw [lenCell_boxed HB4.out, lenCell_boxed hB]; omega⟩
          · gi_wp2
            refine bodyPost_ret (results_none rfl _ _ _) rfl ?_
            exact ⟨⟨_, rfl⟩, .inr hx3⟩
        · gi_wp2
          refine hR.mono ?_
          rintro e W3 (⟨rfl, hJ3, hb3⟩ | ⟨rfl, hx3⟩)
          · have hJ4 := hJs _ _ (.slice (A'.map fun x => (⟨x.block, x.off + 3, none⟩ : Addr)) (q.length - 3) (c' - 3)) hJ3
            have hfz := hb3.frozen
            have hc3 := hb3.cell
            have hcw3 := (hJb _ W3 hJ3).2.cell
            have hb4 := hb3.set (.slice (A'.map fun x => (⟨x.block, x.off + 3, none⟩ : Addr)) (q.length - 3) (c' - 3))
            have HJ4 := Lib.hid hJ4
            have HB4 := Lib.hid hb4
            clear hJ4 hb4 hJ3
            gi_wp2
            refine ⟨⟨k + 1, (A'.map fun x => (⟨x.block, x.off + 3, none⟩ : Addr)), (c' - 3), q.drop 3, HJ4.out, by rw [List.length_drop]; exact HB4.out, by rw [List.length_drop]; omega, by omega, (by have h := hra.cut (c := c') 3 (by omega); rw [if_neg hct, map_addF] at h; exact h), Lib.hid (by have h := hq.out; rw [← h, List.drop_drop, show 3 * k + 3 = 3 * (k + 1) by omega]), by have := HKN.out; omega⟩, by rw [lenCell_boxed HB4.out, lenCell_boxed hB]; omega⟩
          · gi_wp2
            refine bodyPost_ret (results_none rfl _ _ _) rfl ?_
            exact ⟨⟨_, rfl⟩, .inr hx3⟩
      · have m1 : min (3 : Int) (q.length : Int) = (q.length : Int) := by omega
        have s1 : (q.length : Int) ≤ (c' : Int) := by omega
        obtain ⟨fn, tmps, assign, body, hy, hR⟩ := hY k A' c' q.length q wr hJ hB hra hq.out hp (by omega)
        have HKN := Lib.hid hkn
        clear hkn
        by_cases hct : c' = q.length
        · subst hct
          gi_wp2
          refine hR.mono ?_
          rintro e W3 (⟨rfl, hJ3, hb3⟩ | ⟨rfl, hx3⟩)
          · have hJ4 := hJs _ _ (.slice A' 0 0) hJ3
            have hfz := hb3.frozen
            have hc3 := hb3.cell
            have hcw3 := (hJb _ W3 hJ3).2.cell
            have hb4 := hb3.set (.slice A' 0 0)
            have HJ4 := Lib.hid hJ4
            have HB4 := Lib.hid hb4
            clear hJ4 hb4 hJ3
            gi_wp2
            refine ⟨⟨k + 1, A', 0, q.drop q.length, HJ4.out, by rw [List.length_drop, Nat.sub_self]; exact HB4.out, by rw [List.length_drop]; omega, by omega, (by rw [List.drop_length]; exact RdI.nil _ _ _), Lib.hid (by rw [List.drop_length]; exact List.drop_eq_nil_of_le (by have := HKN.out; omega)), by have := HKN.out; omega⟩, by rw [lenCell_boxed HB4.out, lenCell_boxed hB]; omega⟩
          · gi_wp2
            refine bodyPost_ret (results_none rfl _ _ _) rfl ?_
            exact ⟨⟨_, rfl⟩, .inr hx3⟩
        · gi_wp2
          refine hR.mono ?_
          rintro e W3 (⟨rfl, hJ3, hb3⟩ | ⟨rfl, hx3⟩)
          · have hJ4 := hJs _ _ (.slice (A'.map fun x => x.add q.length) 0 (c' - q.length)) hJ3
            have hfz := hb3.frozen
            have hc3 := hb3.cell
            have hcw3 := (hJb _ W3 hJ3).2.cell
            have hb4 := hb3.set (.slice (A'.map fun x => x.add q.length) 0 (c' - q.length))
            have HJ4 := Lib.hid hJ4
            have HB4 := Lib.hid hb4
            clear hJ4 hb4 hJ3
            gi_wp2
            refine ⟨⟨k + 1, (A'.map fun x => x.add q.length), (c' - q.length), q.drop q.length, HJ4.out, by rw [List.length_drop, Nat.sub_self]; exact HB4.out, by rw [List.length_drop]; omega, by omega, (by rw [List.drop_length]; exact RdI.nil _ _ _), Lib.hid (by rw [List.drop_length]; exact List.drop_eq_nil_of_le (by have := HKN.out; omega)), by have := HKN.out; omega⟩, by rw [lenCell_boxed HB4.out, lenCell_boxed hB]; omega⟩
          · gi_wp2
            refine bodyPost_ret (results_none rfl _ _ _) rfl ?_
            exact ⟨⟨_, rfl⟩, .inr hx3⟩
    · have hz : q = [] := List.eq_nil_of_length_eq_zero (by omega)
      have hkn : l.length ≤ 3 * k := by
        have h := congrArg List.length hq.out
        rw [List.length_drop, hz] at h
        simp at h
        omega
      have HE := Lib.hid (show k = N by have := HN.out; omega)
      have HJ := Lib.hid hJ
      have d1 : ¬ (0 : Int) < (q.length : Int) := by omega
      clear hJ hz hkn
      gi_wp2
      go_end0
      exact ⟨⟨_, rfl⟩, .inl (by have h := HJ.out; rw [HE.out] at h; exact h)⟩

end Go.Proofs.YtnbghgenaolfgaaGreat

namespace Go.Proofs.YtnbghgenaolfgaaGreat
open Go.RowKit
set_option linter.unusedVariables false
set_option maxRecDepth 100000

theorem signs_nat : ∀ y : Fin 45, ((([48, 49, 50, 51, 52, 53, 54, 55, 56, 57, 65, 66, 67, 68, 69, 70, 71, 72, 73, 74, 75, 76, 77, 78, 79, 80, 81, 82, 83, 84, 85, 86, 87, 88, 89, 90, 32, 36, 37, 42, 43, 45, 46, 47, 58] : List UInt8).getD y.val 0).toNat : Int) = sg45 (y.val : Int) := by decide
theorem signs_at (s : ByteArray) (L : List UInt8) (hs : s = ⟨L.toArray⟩) (i : Nat) (hi : i < s.size) : s[i] = L.getD i 0 := by
  subst hs
  have h2 : i < L.length := hi
  show L.toArray[i] = _
  simp [h2]
theorem idx_signs {z : Int} (h0 : 0 ≤ z) (h1 : z < 45) (w : World) : (Instr.index 9 (.string { data := #[48, 49, 50, 51, 52, 53, 54, 55, 56, 57, 65, 66, 67, 68, 69, 70, 71, 72, 73, 74, 75, 76, 77, 78, 79, 80, 81, 82, 83, 84, 85, 86, 87, 88, 89, 90, 32, 36, 37, 42, 43, 45, 46, 47, 58] }) (.int .i64 z)).run Tryz.prog w = .ok (.int .u8 (sg45 z)) w := by
  obtain ⟨y, rfl⟩ := Int.eq_ofNat_of_zero_le h0
  obtain ⟨s, hs⟩ : ∃ s : ByteArray, s = { data := #[48, 49, 50, 51, 52, 53, 54, 55, 56, 57, 65, 66, 67, 68, 69, 70, 71, 72, 73, 74, 75, 76, 77, 78, 79, 80, 81, 82, 83, 84, 85, 86, 87, 88, 89, 90, 32, 36, 37, 42, 43, 45, 46, 47, 58] } := ⟨_, rfl⟩
  have hz : s.size = 45 := by rw [hs]; rfl
  rw [← hs, run_index_string _ _ _ _ _ (by rfl), dif_pos ⟨by omega, by rw [hz]; omega⟩]
  have e := signs_nat ⟨y, by omega⟩
  have e2 := signs_at s _ hs y (by rw [hz]; omega)
  have e3 : ((y : Int)).toNat = y := by omega
  simp only [e3, e2]
  simp only at e
  rw [← e]
end Go.Proofs.YtnbghgenaolfgaaGreat

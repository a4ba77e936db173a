/- Layer 4: seal.Diff and seal.Same, for all bytes. Layer 19: the three steps of barcode.Decode, each by itself. Layer 19: the third step of barcode.Decode. Layer 19: what barcode.Decode computes. No condition. -/
import Derived.Test.YtiogogbkgekkdaaM18
import Derived.Test.YtiogogbkgekkdaaM11
import Derived.Test.YtiogogbkgekkdaaM02
import Derived.Deep.RegionHeld3
import Derived.Test.YtiogogbkgekkdaaM25
import Derived.Test.YtiogogbkgekkdaaM27
import Derived.Test.YtiogogbkgekkdaaM30
namespace Go.Proofs.Ytiogogbkgekkdaa
open Go.RowKit
set_option linter.unusedVariables false
set_option maxRecDepth 100000
set_option linter.unusedSimpArgs false

def orB (x b : Int) : Int := ((x.toNat ||| b.toNat : Nat) : Int)
theorem orB_byte {x b : Int} (hx : 0 ≤ x ∧ x < 256) (hb : 0 ≤ b ∧ b < 256) : 0 ≤ orB x b ∧ orB x b < 256 := by
  unfold orB
  have : x.toNat ||| b.toNat < 2 ^ 8 := Nat.or_lt_two_pow (by omega) (by omega)
  omega
theorem orB_zero {x b : Int} (hx : 0 ≤ x ∧ x < 256) (hb : 0 ≤ b ∧ b < 256) : orB x b = 0 ↔ x = 0 ∧ b = 0 := by
  unfold orB
  rw [show ((x.toNat ||| b.toNat : Nat) : Int) = 0 ↔ x.toNat ||| b.toNat = 0 by omega, Nat.or_eq_zero_iff]
  omega
theorem xorB_zero {x b : Int} (hx : 0 ≤ x ∧ x < 256) (hb : 0 ≤ b ∧ b < 256) : xorB x b = 0 ↔ x = b := by
  unfold xorB
  rw [show ((x.toNat ^^^ b.toNat : Nat) : Int) = 0 ↔ x.toNat ^^^ b.toNat = 0 by omega]
  constructor
  · intro h
    have h2 := congrArg (· ^^^ b.toNat) h
    simp [Nat.xor_assoc] at h2
    omega
  · rintro rfl
    simp
theorem wraps_u8 (n : Int) (h0 : 0 ≤ n) (h1 : n < 2 ^ 8) : IntKind.u8.wrap n = n := by rw [IntKind.wrap_u8]; omega
theorem orb8 {x b : Int} (hx : 0 ≤ x ∧ x < 256) (hb : 0 ≤ b ∧ b < 256) : bits .or .u8 x b = orB x b := by
  obtain ⟨a, rfl⟩ := Int.eq_ofNat_of_zero_le hx.1
  obtain ⟨c, rfl⟩ := Int.eq_ofNat_of_zero_le hb.1
  rw [(bits_nat .u8 8 (by decide) wraps_u8 a c (by omega) (by omega)).2]
  unfold orB; simp

theorem look_any (x y v : Int) (g : Nat) (w : World) (hx : 0 ≤ x ∧ x < 256) (hy : 0 ≤ y ∧ y < 256) (hv : 0 ≤ v ∧ v < 256) (hg : Boxed w g 5 (.int .u8 v)) :
    Calls Try.prog 148 #[.int .u8 x, .int .u8 y, .pointer (some ⟨g, 0, none⟩)] w fun e w' => e = .returned (.tuple #[]) ∧ w' = w.setCell ⟨g, 0, none⟩ (.int .u8 (orB v (xorB x y))) := by
  have hc := hg.cell
  have hf := hg.frozen
  have e1 := xor8 hx hy
  have e2 := orb8 hv (xorB_byte hx hy)
  generalize orB v (xorB x y) = r at *
  generalize xorB x y = q at *
  go_enter Try.func148, Try.ntmps148
  go_wp2
  refine bodyPost_end (results_none rfl _ _ _) rfl ?_
  exact ⟨rfl, rfl⟩
theorem pre_step {l m : List Int} {k : Nat} (h1 : k < l.length) (h2 : k < m.length) : l.take (k + 1) = m.take (k + 1) ↔ l.take k = m.take k ∧ l.getD k 0 = m.getD k 0 := by
  rw [List.take_succ_eq_append_getElem h1, List.take_succ_eq_append_getElem h2]
  have e1 : l.getD k 0 = l[k] := by simp [h1]
  have e2 : m.getD k 0 = m[k] := by simp [h2]
  rw [e1, e2]
  constructor
  · intro h
    have := List.append_inj h (by simp; omega)
    exact ⟨this.1, by simpa using this.2⟩
  · rintro ⟨h1, h2⟩
    rw [h1, h2]

theorem keep_set2 {W : World} {a b : Addr} {u v v' : Value} {g : Nat} (h1 : W.cell? a = some u) (h2 : W.cell? b = some v) (n1 : a.block ≠ g) (n2 : b.block ≠ g) : (W.setCell ⟨g, 0, none⟩ v').cell? a = some u ∧ (W.setCell ⟨g, 0, none⟩ v').cell? b = some v :=
  ⟨(World.cell?_setCell_far _ _ _ _ n1.symm).trans h1, (World.cell?_setCell_far _ _ _ _ n2.symm).trans h2⟩

set_option maxHeartbeats 4000000 in
theorem diff_any (A B : Option Addr) (c d : Nat) (l m : List Int) (w : World) (hr : RdI w .u8 A l) (hs : RdI w .u8 B m) (hl : l.length ≤ 9223372036854775807) (hm : m.length ≤ 9223372036854775807) (hlb : ∀ x ∈ l, 0 ≤ x ∧ x < 256) (hmb : ∀ x ∈ m, 0 ≤ x ∧ x < 256) :
    Calls Try.prog 119 #[.slice A l.length c, .slice B m.length d] w fun e w' => (∃ v : Int, e = .returned (.tuple #[.int .u8 v, .bool ((l.length : Int) == m.length)]) ∧ (v = 0 ↔ l.take (min l.length m.length) = m.take (min l.length m.length))) ∧ Below w.heap.size w w' := by
  have hmf : ∀ (fn : Fn) (first cap : Array Value) (w : World), (Instr.makeFunc fn first cap).run Try.prog w = .ok (.func fn first cap) w := fun _ _ _ _ => rfl
  by_cases hle : l.length ≤ m.length
  · have hd1 : (l.length : Int) ≤ (m.length : Int) := by omega
    rw [Nat.min_eq_left hle]
    go_enter Try.func119, Try.ntmps119
    go_wp2
    go_loopw [8, 15] (fun j i wr => ∃ (k : Nat) (v : Int), k ≤ l.length ∧ i = .int .i64 k ∧ Boxed wr w.heap.size 5 (.int .u8 v) ∧ 0 ≤ v ∧ v < 256 ∧ Hid (v = 0 ↔ l.take k = m.take k) ∧ Below w.heap.size w wr) (fun _ i _ => l.length - (intOf i).toNat)
    case atStart => exact ⟨0, 0, Nat.zero_le _, rfl, Boxed.new _ _ _, by omega, by omega, Lib.hid (by simp), bel1 _ _⟩
    case round =>
      obtain ⟨k, v, hk, rfl, hv, hv0, hv1, hg, hbW⟩ := hrel
      by_cases hlt : k < l.length
      · obtain ⟨ad, rfl, hcw⟩ := hr.at_ (show k < l.length by omega)
        obtain ⟨bd, rfl, hdw⟩ := hs.at_ (show k < m.length by omega)
        have na : (ad.add k).block ≠ w.heap.size := Nat.ne_of_lt (World.block_lt_of_cell? w _ hcw)
        have nb : (bd.add k).block ≠ w.heap.size := Nat.ne_of_lt (World.block_lt_of_cell? w _ hdw)
        have hc := keep_cell hbW hcw
        have hd := keep_cell hbW hdw
        have hvd : Boxed wr.drew w.heap.size 5 (.int .u8 v) := hv
        have hx := hlb _ (getD_mem (l := l) (k := k) (by omega))
        have hy := hmb _ (getD_mem (l := m) (k := k) (by omega))
        have hst := pre_step (l := l) (m := m) (k := k) (by omega) (by omega)
        clear hcw hdw
        generalize l.getD k 0 = x at *
        generalize m.getD k 0 = y at *
        have hnew : orB v (xorB x y) = 0 ↔ l.take (k + 1) = m.take (k + 1) := by
          rw [hst, orB_zero ⟨hv0, hv1⟩ (xorB_byte hx hy), xorB_zero hx hy, hg.out]
        have hob := orB_byte ⟨hv0, hv1⟩ (xorB_byte hx hy)
        have HNEW := Lib.hid hnew
        have HOB := Lib.hid hob
        clear hst hg hnew hob
        have k0 : (0 : Int) ≤ (k : Int) := by omega
        have k1 : (k : Int) < (l.length : Int) := by omega
        have k2 : (k : Int) < (m.length : Int) := by omega
        go_wp2
        go_region_held3 (fun w9 => w9.cell? (ad.add k) = some (.int .u8 x) ∧ w9.cell? (bd.add k) = some (.int .u8 y)) (first | assumption | exact ⟨hc, hd⟩ | exact hHeld2)
          (first | (go_at_call 148; (with_reducible refine (look_any x y v _ _ hx hy ⟨hv0, hv1⟩ hvd).mono ?_); rintro e w' ⟨rfl, rfl⟩; have hHeld2 := keep_set2 (W := wr.drew) (g := w.heap.size) (v' := .int .u8 (orB v (xorB x y))) hc hd na nb))
        go_wp2
        exact ⟨⟨k + 1, _, by omega, by go_num, hv.set _, HOB.out.1, HOB.out.2, HNEW, bD (bS hbW (Nat.le_refl _))⟩, by simp [intOf]; omega⟩
      · obtain rfl : k = l.length := by omega
        have hcv := hv.cell
        have HG := hg
        clear hg
        go_wp2
        go_ret2
        exact ⟨⟨v, rfl, HG.out⟩, hbW⟩
  · have hd1 : ¬ (l.length : Int) ≤ (m.length : Int) := by omega
    have hd2 : (m.length : Int) ≤ (l.length : Int) := by omega
    rw [Nat.min_eq_right (by omega)]
    go_enter Try.func119, Try.ntmps119
    go_wp2
    go_loopw [8, 15] (fun j i wr => ∃ (k : Nat) (v : Int), k ≤ m.length ∧ i = .int .i64 k ∧ Boxed wr w.heap.size 5 (.int .u8 v) ∧ 0 ≤ v ∧ v < 256 ∧ Hid (v = 0 ↔ l.take k = m.take k) ∧ Below w.heap.size w wr) (fun _ i _ => m.length - (intOf i).toNat)
    case atStart => exact ⟨0, 0, Nat.zero_le _, rfl, Boxed.new _ _ _, by omega, by omega, Lib.hid (by simp), bel1 _ _⟩
    case round =>
      obtain ⟨k, v, hk, rfl, hv, hv0, hv1, hg, hbW⟩ := hrel
      by_cases hlt : k < m.length
      · obtain ⟨ad, rfl, hcw⟩ := hr.at_ (show k < l.length by omega)
        obtain ⟨bd, rfl, hdw⟩ := hs.at_ (show k < m.length by omega)
        have na : (ad.add k).block ≠ w.heap.size := Nat.ne_of_lt (World.block_lt_of_cell? w _ hcw)
        have nb : (bd.add k).block ≠ w.heap.size := Nat.ne_of_lt (World.block_lt_of_cell? w _ hdw)
        have hc := keep_cell hbW hcw
        have hd := keep_cell hbW hdw
        have hvd : Boxed wr.drew w.heap.size 5 (.int .u8 v) := hv
        have hx := hlb _ (getD_mem (l := l) (k := k) (by omega))
        have hy := hmb _ (getD_mem (l := m) (k := k) (by omega))
        have hst := pre_step (l := l) (m := m) (k := k) (by omega) (by omega)
        clear hcw hdw
        generalize l.getD k 0 = x at *
        generalize m.getD k 0 = y at *
        have hnew : orB v (xorB x y) = 0 ↔ l.take (k + 1) = m.take (k + 1) := by
          rw [hst, orB_zero ⟨hv0, hv1⟩ (xorB_byte hx hy), xorB_zero hx hy, hg.out]
        have hob := orB_byte ⟨hv0, hv1⟩ (xorB_byte hx hy)
        have HNEW := Lib.hid hnew
        have HOB := Lib.hid hob
        clear hst hg hnew hob
        have k0 : (0 : Int) ≤ (k : Int) := by omega
        have k1 : (k : Int) < (l.length : Int) := by omega
        have k2 : (k : Int) < (m.length : Int) := by omega
        go_wp2
        go_region_held3 (fun w9 => w9.cell? (ad.add k) = some (.int .u8 x) ∧ w9.cell? (bd.add k) = some (.int .u8 y)) (first | assumption | exact ⟨hc, hd⟩ | exact hHeld2)
          (first | (go_at_call 148; (with_reducible refine (look_any x y v _ _ hx hy ⟨hv0, hv1⟩ hvd).mono ?_); rintro e w' ⟨rfl, rfl⟩; have hHeld2 := keep_set2 (W := wr.drew) (g := w.heap.size) (v' := .int .u8 (orB v (xorB x y))) hc hd na nb))
        go_wp2
        exact ⟨⟨k + 1, _, by omega, by go_num, hv.set _, HOB.out.1, HOB.out.2, HNEW, bD (bS hbW (Nat.le_refl _))⟩, by simp [intOf]; omega⟩
      · obtain rfl : k = m.length := by omega
        have hcv := hv.cell
        have HG := hg
        clear hg
        go_wp2
        go_ret2
        exact ⟨⟨v, rfl, HG.out⟩, hbW⟩

theorem sealSame_any (A B : Option Addr) (c d : Nat) (l m : List Int) (w : World) (hr : RdI w .u8 A l) (hs : RdI w .u8 B m) (hl : l.length ≤ 9223372036854775807) (hm : m.length ≤ 9223372036854775807) (hlb : ∀ x ∈ l, 0 ≤ x ∧ x < 256) (hmb : ∀ x ∈ m, 0 ≤ x ∧ x < 256) :
    Calls Try.prog 69 #[.slice A l.length c, .slice B m.length d] w fun e w' => e = .returned (.bool (l == m)) ∧ Below w.heap.size w w' := by
  by_cases hlen : l.length = m.length
  · have hq : ((l.length : Int) == (m.length : Int)) = true := by rw [beq_iff_eq]; omega
    have E : ∀ v : Int, (v = 0 ↔ l.take (min l.length m.length) = m.take (min l.length m.length)) → (l == m) = (v == 0) := by
      intro v hv
      rw [show min l.length m.length = l.length by omega, List.take_length, List.take_of_length_le (by omega)] at hv
      rw [Bool.eq_iff_iff, beq_iff_eq, beq_iff_eq]
      exact hv.symm
    have E2 := Lib.hid E
    clear E hlen
    go_enter Try.func69, Try.ntmps69
    go_wp2_with (go_at_call 119; (with_reducible refine (diff_any _ _ _ _ l m _ hr hs hl hm hlb hmb).mono ?_); rintro e w' ⟨⟨v, rfl, hv⟩, hb⟩; have HV := Lib.hid (E2.out v hv); clear hv)
    go_ret
    exact ⟨by rw [HV.out] <;> rfl, hb⟩
  · have hq : ((l.length : Int) == (m.length : Int)) = false := by rw [beq_eq_false_iff_ne]; omega
    have E := Lib.hid (show (l == m) = false by rw [beq_eq_false_iff_ne]; intro h; exact hlen (congrArg List.length h))
    clear hlen
    go_enter Try.func69, Try.ntmps69
    go_wp2_with (go_at_call 119; (with_reducible refine (diff_any _ _ _ _ l m _ hr hs hl hm hlb hmb).mono ?_); rintro e w' ⟨⟨v, rfl, hv⟩, hb⟩; clear hv)
    go_ret
    exact ⟨by rw [E.out] <;> rfl, hb⟩
end Go.Proofs.Ytiogogbkgekkdaa

namespace Go.Proofs.Ytiogogbkgekkdaa
open Go.RowKit
set_option linter.unusedVariables false
set_option maxRecDepth 100000
set_option linter.unusedSimpArgs false

theorem fgGo_len : ∀ (q : List Fd) (l : List Int) (la : Int), (fgGo q l la).1.length = l.length
  | [], l, la => rfl
  | f :: q, l, la => by
    rw [fgGo_cons]
    split
    · rfl
    split
    · rfl
    split
    · rfl
    · rw [fgGo_len]; simp
theorem fgEnd_len {l : List Int} (h : l.length = 15) (la : Int) : (fgEnd l la).1.length = 15 := by
  unfold fgEnd
  split
  · rfl
  split
  · split
    · rfl
    · exact h
  split
  · rfl
  split
  · rfl
  · simpa using h
theorem fgE_len (q : List Fd) : (fgE q).1.length = 15 := by
  unfold fgE
  split
  · split
    · rfl
    · exact fgEnd_len (by rw [fgGo_len]; rfl) _
  · rfl
theorem fgE_tlv {q : List Fd} (h : (fgE q).2 = 0) : tlvB 0 q = true := by
  unfold fgE at h
  split at h
  · assumption
  · simp at h
theorem body_short {b : List Int} {q : List Fd} (h : tlvGet b = (q, 0)) (hb : ∀ x ∈ b, 0 ≤ x ∧ x < 256) : b.length ≤ 65535 := by
  obtain ⟨h1, h2⟩ := tlvPut_get h hb
  obtain ⟨t3, t4⟩ := tlvB_facts _ 0 h2 (by omega)
  rw [← h1]
  have := putF_len q (fun f hf => (t4 f hf).2.2)
  omega
/-- The variables that the steps share, from block N on; base is the world behind open. -/
def DecM (L N : Nat) (bv' tv fv : Value) (rcs kcs gcs : Array Value) (base W : World) : Prop :=
  Boxed W N 24 bv' ∧ Boxed W (N + 1) 24 tv ∧ Boxed W (N + 1 + 1) 62 fv ∧ W.heap[N + 1 + 1 + 1]? = some (.cells rcs 35 (0, 0)) ∧ W.heap[N + 1 + 1 + 1 + 1]? = some (.cells kcs 26 (0, 0)) ∧ W.heap[N + 1 + 1 + 1 + 1 + 1]? = some (.cells gcs 66 (0, 0)) ∧ Below base.heap.size base W ∧ base.heap.size ≤ N
theorem DecM.below {L N : Nat} {bv' tv fv : Value} {rcs kcs gcs : Array Value} {base W W' : World} (h : DecM L N bv' tv fv rcs kcs gcs base W) (hb : Below W.heap.size W W') : DecM L N bv' tv fv rcs kcs gcs base W' := by
  obtain ⟨h1, h2, h3, h4, h5, h6, h7, h8⟩ := h
  have K : ∀ {b : Nat} {o : Obj}, W.heap[b]? = some o → W'.heap[b]? = some o := fun h => (hb.block _ (Array.getElem?_eq_some_iff.1 h).1).trans h
  exact ⟨K h1, K h2, K h3, K h4, K h5, K h6, bT h7 hb, h8⟩
theorem DecM.setR {L N : Nat} {bv' tv fv : Value} {rcs kcs gcs : Array Value} {base W : World} (h : DecM L N bv' tv fv rcs kcs gcs base W) (cs : Array Value) : DecM L N bv' tv fv cs kcs gcs base (W.setRow (N + 1 + 1 + 1) cs) := by
  obtain ⟨h1, h2, h3, h4, h5, h6, h7, h8⟩ := h
  have K : ∀ {b : Nat}, b ≠ N + 1 + 1 + 1 → (W.setRow (N + 1 + 1 + 1) cs).heap[b]? = W.heap[b]? := fun h => setRow_other W _ _ cs h
  exact ⟨(K (by omega)).trans h1, (K (by omega)).trans h2, (K (by omega)).trans h3, setRow_heap _ _ _ _ _ _ h4, (K (by omega)).trans h5, (K (by omega)).trans h6, setRow_below h7 (by omega), h8⟩
theorem DecM.setK {L N : Nat} {bv' tv fv : Value} {rcs kcs gcs : Array Value} {base W : World} (h : DecM L N bv' tv fv rcs kcs gcs base W) (cs : Array Value) : DecM L N bv' tv fv rcs cs gcs base (W.setRow (N + 1 + 1 + 1 + 1) cs) := by
  obtain ⟨h1, h2, h3, h4, h5, h6, h7, h8⟩ := h
  have K : ∀ {b : Nat}, b ≠ N + 1 + 1 + 1 + 1 → (W.setRow (N + 1 + 1 + 1 + 1) cs).heap[b]? = W.heap[b]? := fun h => setRow_other W _ _ cs h
  exact ⟨(K (by omega)).trans h1, (K (by omega)).trans h2, (K (by omega)).trans h3, (K (by omega)).trans h4, setRow_heap _ _ _ _ _ _ h5, (K (by omega)).trans h6, setRow_below h7 (by omega), h8⟩

set_option maxHeartbeats 4000000 in
theorem dec1_any (L N : Nat) (bv' tv : Value) (A : Option Addr) (c : Nat) (q : List Fd) (rcs kcs gcs : Array Value) (hr15 : rcs.size = 15) (base W : World) (hF : RdF base A q) (hl : q.length ≤ 9223372036854775807) (hM : DecM L N bv' tv (.slice A q.length c) rcs kcs gcs base W) :
    Calls Try.prog 65 #[.pointer (some ⟨N + 1 + 1, 0, none⟩), .pointer (some ⟨N + 1 + 1 + 1, 0, none⟩)] W fun e W' => e = .returned (.int .i64 (fgE q).2) ∧ DecM L N bv' tv (.slice A q.length c) (iv (fgE q).1).toArray kcs gcs base W' := by
  have hG := fieldsGet_any A c q W (hF.below hM.2.2.2.2.2.2.1 (Nat.le_refl _)) hl
  have hcF := hM.2.2.1.cell
  have hlen := fgE_len q
  generalize fgE q = r at *
  have HM := Lib.hid hM
  have HL := Lib.hid hlen
  clear hM hlen
  go_enter Try.func65, Try.ntmps65
  go_wp2_with (first | (go_at_call 66; (with_reducible refine hG.mono ?_); rintro e w1 ⟨rfl, hb1⟩; have hM1 := HM.out.below hb1; have hR1 := hM1.2.2.2.1; have HM1 := Lib.hid hM1; clear hM1) | (refine wpList_store_row rfl 35 _ _ rfl (N + 1 + 1 + 1) (iv r.1).toArray rfl rfl 35 _ hR1 ?_ ?_ ?_ ?_; (focus (rw [List.size_toArray, iv_len, HL.out]; exact infoR)); (focus (rw [hr15, List.size_toArray, iv_len, HL.out])); (focus (exact all_one (iv_one _)))))
  go_ret
  exact ⟨rfl, HM1.out.setR _⟩
set_option maxHeartbeats 4000000 in
theorem dec2_any (L N : Nat) (bv' tv fv : Value) (A : Option Addr) (c : Nat) (ks : List Ky) (l : List Int) (hl15 : l.length = 15) (kcs gcs : Array Value) (hk4 : kcs.size = 4) (base W : World) (hr : RdK base A ks) (hl : ks.length ≤ 9223372036854775807) (hL : Boxed base L 28 (.slice A ks.length c)) (hM : DecM L N bv' tv fv (iv l).toArray kcs gcs base W) :
    Calls Try.prog 67 #[.pointer (some ⟨L, 0, none⟩), .pointer (some ⟨N + 1 + 1 + 1, 0, none⟩), .pointer (some ⟨N + 1 + 1 + 1 + 1, 0, none⟩)] W fun e W' => ∃ (Bk : Option Addr) (ck : Nat), e = .returned (.int .i64 (findE ks (l.getD 11 0)).2) ∧
      (∀ k, (findE ks (l.getD 11 0)).1 = some k → k.sec.length ≤ ck ∧ ck ≤ 9223372036854775807 ∧ RdI base .u8 Bk k.sec ∧ (∀ x ∈ k.sec, 0 ≤ x ∧ x < 256) ∧ rightB k = true ∧ k.id = l.getD 11 0) ∧ DecM L N bv' tv fv (iv l).toArray (keyC (findE ks (l.getD 11 0)).1 Bk ck) gcs base W' := by
  have hF := fun W hW => ringFind_any A c ks (l.getD 11 0) base W hr hW hl
  have hc1 := (boxed_below hL hM.2.2.2.2.2.2.1).cell
  have hcR := row_iv hM.2.2.2.1 (j := 11) (by omega)
  have hb0 := hM.2.2.2.2.2.2.1
  have HM := Lib.hid hM
  clear hM
  generalize l.getD 11 0 = id at *
  go_enter Try.func67, Try.ntmps67
  go_wp2_with (first | (go_at_call 49; (with_reducible refine (hF _ hb0).mono ?_); rintro e w2 ⟨⟨Bk, ck, rfl, hkk⟩, hb2⟩; rw [keyV_eq]; have hM2 := HM.out.below hb2; have hKr := hM2.2.2.2.2.1; have HM2 := Lib.hid hM2; have HK := Lib.hid hkk; clear hM2 hkk hb2) | (refine wpList_store_row rfl 26 _ _ rfl (N + 1 + 1 + 1 + 1) (keyC (findE ks id).1 Bk ck) rfl rfl 26 _ hKr ?_ ?_ ?_ ?_; (focus (rw [keyC_size]; exact infoK)); (focus (rw [keyC_size, hk4])); (focus (exact keyC_one _ _ _))))
  go_ret
  exact ⟨Bk, ck, rfl, HK.out, HM2.out.setK _⟩
end Go.Proofs.Ytiogogbkgekkdaa

namespace Go.Proofs.Ytiogogbkgekkdaa
open Go.RowKit
set_option linter.unusedVariables false
set_option maxRecDepth 100000
set_option linter.unusedSimpArgs false

set_option maxHeartbeats 4000000 in
theorem dec3_any (L N : Nat) (A1 A2 Bk : Option Addr) (c1 c2 ck : Nat) (bd tg : List Int) (k : Ky) (fv : Value) (rcs gcs : Array Value) (base W : World) (hb : RdI base .u8 A1 bd) (ht : RdI base .u8 A2 tg) (hs : RdI base .u8 Bk k.sec) (hbb : ∀ x ∈ bd, 0 ≤ x ∧ x < 256) (htb : ∀ x ∈ tg, 0 ≤ x ∧ x < 256) (hsb : ∀ x ∈ k.sec, 0 ≤ x ∧ x < 256)
    (hbl : bd.length ≤ 65535) (htl : tg.length ≤ 32) (hkl : k.sec.length ≤ 64) (bb : Bool) (hbe : (tg == tagN k.sec (66 :: bd)) = bb) (hM : DecM L N (.slice A1 bd.length c1) (.slice A2 tg.length c2) fv rcs (keyC (some k) Bk ck) gcs base W) :
    Calls Try.prog 68 #[.pointer (some ⟨N + 1 + 1 + 1 + 1, 0, none⟩), .pointer (some ⟨N, 0, none⟩), .pointer (some ⟨N + 1, 0, none⟩)] W fun e W' => e = .returned (.int .i64 (if bb then 0 else 11)) ∧ DecM L N (.slice A1 bd.length c1) (.slice A2 tg.length c2) fv rcs (keyC (some k) Bk ck) gcs base W' := by
  have hbW := hM.2.2.2.2.2.2.1
  have hcK : W.cell? ⟨N + 1 + 1 + 1 + 1, 1, none⟩ = some (.slice Bk k.sec.length ck) := cell_of_row W _ 1 _ _ _ hM.2.2.2.2.1
  have hcB := hM.1.cell
  have hcT := hM.2.1.cell
  have hT := bcTag_any Bk A1 ck c1 k.sec bd W (hs.below hbW) (hb.below hbW) (by omega) (by omega) hsb hbb
  have hTl := tagN_len k.sec (66 :: bd)
  have hTb := tagN_byte k.sec (66 :: bd)
  generalize tagN k.sec (66 :: bd) = TG at *
  have HTL := Lib.hid hTl
  have HM := Lib.hid hM
  have HT := Lib.hid (ht.below hbW)
  clear hM hTl hb hs ht
  go_enter Try.func68, Try.ntmps68
  go_wp2_with fail
  refine hT.mono ?_
  rintro e w7 ⟨rfl, b7⟩
  obtain ⟨w8, hw8, i8, b8, z8⟩ := newRow w7 (bv (List.replicate 32 0)).toArray (bv TG).toArray 49
  have HW8 := Lib.hid hw8
  have hc8 := keep_cell b8 (keep_cell b7 hcT)
  have HM8 := Lib.hid ((HM.out.below b7).below b8)
  have hrd : RdI w8.drew .u8 (some ⟨w7.heap.size, 0, none⟩) TG := rd_row (w := w8) i8
  have htd : RdI w8.drew .u8 A2 tg := (HT.out.below b7).below (bD b8)
  have hSm := sealSame_any A2 (some ⟨w7.heap.size, 0, none⟩) c2 32 tg TG w8.drew htd hrd (by omega) (by rw [HTL.out]; omega) htb hTb
  rw [HTL.out, hbe] at hSm
  have hcd : w8.drew.cell? ⟨N + 1, 0, none⟩ = some (.slice A2 tg.length c2) := hc8
  clear hw8 i8 b7 b8 hcB hcT hcK hT hrd htd hTb hc8
  go_wp2_with (refine wpList_store_row rfl 49 _ _ rfl w7.heap.size (bv TG).toArray rfl rfl 49 _ (heap_alloc_new w7 _) ?_ ?_ (all_one (bv_one _)) ?_; (focus (rw [List.size_toArray, bv_len, HTL.out]; exact info32)); (focus (show 32 = (bv TG).toArray.size; rw [List.size_toArray, bv_len, HTL.out])); generalize hW8 : World.setRow _ _ _ = w88; obtain rfl : w8 = w88 := (by rw [← HW8.out, ← hW8]; kernel_rfl))
  go_region_held3 (fun w9 => w9.cell? ⟨N + 1, 0, none⟩ = some (.slice A2 tg.length c2)) (assumption) ((go_at_call 69; (with_reducible refine hSm.mono ?_); rintro e w9 ⟨rfl, b9⟩; have hc9 := keep_cell b9 hcd))
  cases bb
  · go_wp2
    go_ret
    exact ⟨rfl, (HM8.out.below (Below.refl _ _).drew).below b9⟩
  · go_wp2
    go_ret
    exact ⟨rfl, (HM8.out.below (Below.refl _ _).drew).below b9⟩
end Go.Proofs.Ytiogogbkgekkdaa

namespace Go.Proofs.Ytiogogbkgekkdaa
open Go.RowKit
set_option linter.unusedVariables false
set_option maxRecDepth 100000
set_option linter.unusedSimpArgs false

def decG (L N : Nat) : Array Value := #[.func (.func 65) #[] #[.pointer (some ⟨N + 1 + 1, 0, none⟩), .pointer (some ⟨N + 1 + 1 + 1, 0, none⟩)], .func (.func 67) #[] #[.pointer (some ⟨L, 0, none⟩), .pointer (some ⟨N + 1 + 1 + 1, 0, none⟩), .pointer (some ⟨N + 1 + 1 + 1 + 1, 0, none⟩)], .func (.func 68) #[] #[.pointer (some ⟨N + 1 + 1 + 1 + 1, 0, none⟩), .pointer (some ⟨N, 0, none⟩), .pointer (some ⟨N + 1, 0, none⟩)]]
def DecP (ks : List Ky) (bd tg : List Int) (q : List Fd) (L N : Nat) (vb vt vf : Value) (base : World) : Nat → World → Prop
  | 0, W => DecM L N vb vt vf (iv zL).toArray kz (decG L N) base W
  | 1, W => (fgE q).2 = 0 ∧ DecM L N vb vt vf (iv (fgE q).1).toArray kz (decG L N) base W
  | 2, W => ∃ (k : Ky) (Bk : Option Addr) (ck : Nat), ((fgE q).2 = 0 ∧ findE ks ((fgE q).1.getD 11 0) = (some k, 0) ∧ RdI base .u8 Bk k.sec ∧ (∀ x ∈ k.sec, 0 ≤ x ∧ x < 256) ∧ rightB k = true) ∧ DecM L N vb vt vf (iv (fgE q).1).toArray (keyC (some k) Bk ck) (decG L N) base W
  | 3, W => ∃ (k : Ky) (Bk : Option Addr) (ck : Nat), ((fgE q).2 = 0 ∧ findE ks ((fgE q).1.getD 11 0) = (some k, 0) ∧ (tg == tagN k.sec (66 :: bd)) = true) ∧ DecM L N vb vt vf (iv (fgE q).1).toArray (keyC (some k) Bk ck) (decG L N) base W
  | _, _ => False
theorem decM_func {L N k : Nat} {bv' tv fv : Value} {rcs kcs gcs : Array Value} {base W : World} (h : DecM L N bv' tv fv rcs kcs gcs base W) : W.cell? ⟨N + 1 + 1 + 1 + 1 + 1, k, none⟩ = gcs[k]? := cell_of_row _ _ k _ _ _ h.2.2.2.2.2.1
theorem decP_func {ks : List Ky} {bd tg : List Int} {q : List Fd} {L N : Nat} {vb vt vf : Value} {base : World} (n : Nat) (W : World) (h : DecP ks bd tg q L N vb vt vf base n W) (k : Nat) : W.cell? ⟨N + 1 + 1 + 1 + 1 + 1, k, none⟩ = (decG L N)[k]? := by
  match n, h with
  | 0, h => exact decM_func (L := L) h
  | 1, ⟨_, h⟩ => exact decM_func (L := L) h
  | 2, ⟨_, _, _, _, h⟩ => exact decM_func (L := L) h
  | 3, ⟨_, _, _, _, h⟩ => exact decM_func (L := L) h
theorem decSteps_any (A : Option Addr) (c : Nat) (ks : List Ky) (bd tg : List Int) (q : List Fd) (A1 A2 A3 : Option Addr) (c1 c2 c3 L N : Nat) (base W : World) (hr : RdK base A ks) (hl : ks.length ≤ 9223372036854775807) (hL : Boxed base L 28 (.slice A ks.length c))
    (hb : RdI base .u8 A1 bd) (ht : RdI base .u8 A2 tg) (hF : RdF base A3 q) (hbb : ∀ x ∈ bd, 0 ≤ x ∧ x < 256) (htb : ∀ x ∈ tg, 0 ≤ x ∧ x < 256) (hql : q.length ≤ 9223372036854775807) (hbl : bd.length ≤ 65535) (htl : tg.length ≤ 32)
    (h0 : DecP ks bd tg q L N (.slice A1 bd.length c1) (.slice A2 tg.length c2) (.slice A3 q.length c3) base 0 W) :
    Calls Try.prog 44 #[.slice (some ⟨N + 1 + 1 + 1 + 1 + 1, 0, none⟩) 3 3] W
      (StepRet (DecP ks bd tg q L N (.slice A1 bd.length c1) (.slice A2 tg.length c2) (.slice A3 q.length c3) base 3) (fun z W' => Below base.heap.size base W' ∧ decF ks bd tg q = (zL, z))) := by
  refine steps_any _ 65 67 68 _ _ _ _ _ W h0 (fun k W' h => ⟨decP_func k W' h 0, decP_func k W' h 1, decP_func k W' h 2⟩) (fun _ => rfl) (fun _ => rfl) (fun _ => rfl) ?_ ?_ ?_
  · intro W' hM
    refine (dec1_any L N _ _ A3 c3 q _ _ _ rfl base W' hF hql hM).mono ?_
    rintro e W2 ⟨rfl, hM2⟩
    refine ⟨_, rfl, fun hz => ⟨hz, hM2⟩, fun hz => ⟨hM2.2.2.2.2.2.2.1, ?_⟩⟩
    unfold decF
    rw [if_pos hz]
  · rintro W' ⟨hz, hM⟩
    refine (dec2_any L N _ _ _ A c ks (fgE q).1 (fgE_len q) _ _ rfl base W' hr hl hL hM).mono ?_
    rintro e W2 ⟨Bk, ck, rfl, hk, hM2⟩
    refine ⟨_, rfl, fun hz2 => ?_, fun hz2 => ⟨hM2.2.2.2.2.2.2.1, ?_⟩⟩
    · cases hf : (findE ks ((fgE q).1.getD 11 0)).1 with
      | none => exact absurd hz2 (findE_none hf)
      | some k =>
        rw [hf] at hM2
        obtain ⟨k1, k2, k3, k4, k5, k6⟩ := hk k hf
        exact ⟨k, Bk, ck, ⟨hz, findE_some hf, k3, k4, k5⟩, hM2⟩
    · unfold decF
      rw [if_neg (fun h => h hz)]
      cases hf : (findE ks ((fgE q).1.getD 11 0)).1 with
      | none => rw [show findE ks ((fgE q).1.getD 11 0) = (none, (findE ks ((fgE q).1.getD 11 0)).2) by rw [← hf]]
      | some k =>
        have := findE_some hf
        rw [this] at hz2
        exact absurd rfl hz2
  · rintro W' ⟨k, Bk, ck, ⟨hz, hf, k3, k4, k5⟩, hM⟩
    obtain ⟨bb, hbe⟩ : ∃ bb, (tg == tagN k.sec (66 :: bd)) = bb := ⟨_, rfl⟩
    refine (dec3_any L N A1 A2 Bk c1 c2 ck bd tg k _ _ _ base W' hb ht k3 hbb htb k4 hbl htl (rightB_len k5).2 bb hbe hM).mono ?_
    rintro e W2 ⟨rfl, hM2⟩
    refine ⟨_, rfl, fun hz2 => ⟨k, Bk, ck, ⟨hz, hf, ?_⟩, hM2⟩, fun hz2 => ⟨hM2.2.2.2.2.2.2.1, ?_⟩⟩
    · cases bb
      · simp at hz2
      · exact hbe
    · unfold decF
      rw [if_neg (fun h => h hz), hf]
      cases bb
      · simp only
        rw [if_neg (by rw [hbe]; simp)]
        rfl
      · simp at hz2
theorem decF_ok {ks : List Ky} {bd tg : List Int} {q : List Fd} {k : Ky} (h1 : (fgE q).2 = 0) (h2 : findE ks ((fgE q).1.getD 11 0) = (some k, 0)) (h3 : (tg == tagN k.sec (66 :: bd)) = true) : decF ks bd tg q = ((fgE q).1, 0) := by
  unfold decF
  rw [if_neg (fun h => h h1), h2]
  simp only
  rw [if_pos h3]
end Go.Proofs.Ytiogogbkgekkdaa

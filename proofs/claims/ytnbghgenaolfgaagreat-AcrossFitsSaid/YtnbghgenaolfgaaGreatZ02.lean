/- Layer 2: SHA-256's constants, by the program. Layer 2: SHA-256's block, by the program. Condition: the rows are of 8 and 16 words. Layer 1: bytes as words and back, by the program. Condition: lengths in bounds, a multiple of four. Words on memory: append of zeros onto a row of the call's own; a copy of bytes. Layer 2: bytes are filled up to whole blocks, by the program. Condition: not more than some 2^46 bytes. No condition. -/
import Derived.Test.YtnbghgenaolfgaaGreatZ01
import Derived.Test.YtnbghgenaolfgaaGreatZ00
import Derived.Lib.AppendZerosOnto
import Derived.WalkSpells
namespace Go.Proofs.YtnbghgenaolfgaaGreat
open Go.RowKit
set_option linter.unusedVariables false
set_option maxRecDepth 100000
set_option linter.unusedSimpArgs false

theorem info64 : (Tryz.prog.info? 245).map (·.size) = some (wv kN).toArray.size := by kernel_rfl
set_option maxHeartbeats 2000000 in
theorem const_any (t : Nat) (w : World) (ht : t < 64) :
    Calls Tryz.prog 240 #[.int .i64 (t : Int)] w fun e w' => e = .returned (.int .u32 ((kN.getD t 0 : Nat) : Int)) ∧ Below w.heap.size w w' := by
  go_enter Tryz.func240, Tryz.ntmps240
  go_wp2_with (first | (refine wpL_build rfl 245 _ rfl (wv kN).toArray (by as_aux_lemma => kernel_rfl) ?_) | (refine wpList_store_row rfl 245 _ _ rfl w.heap.size (wv kN).toArray rfl rfl 245 _ (heap_alloc_new w _) info64 (by as_aux_lemma => kernel_rfl) (all_one (wv_one _)) ?_; generalize hW1 : World.setRow _ _ _ = w1; have hg1 : w1.heap[w.heap.size]? = some (.cells (wv kN).toArray 245 (0, 0)) := (by rw [← hW1]; exact setRow_heap _ _ _ _ _ _ (heap_alloc_new w _)); have HB := Lib.hid (show Below w.heap.size w w1 from by rw [← hW1]; exact setRow_below (bel1 w _) (Nat.le_refl _)); have hc := row_wv (j := t) hg1 ht; clear hW1 hg1))
  go_ret
  exact ⟨rfl, HB.out⟩
end Go.Proofs.YtnbghgenaolfgaaGreat

namespace Go.Proofs.YtnbghgenaolfgaaGreat
open Go.RowKit
set_option linter.unusedVariables false
set_option maxRecDepth 100000
set_option linter.unusedSimpArgs false

theorem rnds_len : ∀ {ks ws v : List Nat}, v.length = 8 → (rndsN ks ws v).length = 8
  | [], _, _, h => h
  | _ :: _, [], _, h => h
  | k :: ks, w :: ws, v, _ => rnds_len (ks := ks) (ws := ws) (v := rndN v k w) rfl
theorem rnds_W32 : ∀ {ks ws v : List Nat}, W32 v → W32 (rndsN ks ws v)
  | [], _, _, h => h
  | _ :: _, [], _, h => h
  | k :: ks, w :: ws, v, h => rnds_W32 (ks := ks) (ws := ws) (rnd_W32 h k w)
theorem const_at {kt : Nat} (t : Nat) (w : World) (ht : t < 64) (hk : kN.getD t 0 = kt) : Calls Tryz.prog 240 #[.int .i64 (t : Int)] w fun e w' => e = .returned (.int .u32 (kt : Int)) ∧ Below w.heap.size w w' := by
  subst hk
  exact const_any t w ht
theorem k_len : kN.length = 64 := by decide
theorem rnds_snoc {t : Nat} : ∀ {ks ws v : List Nat}, t < ks.length → t < ws.length → rndsN (ks.take (t + 1)) (ws.take (t + 1)) v = rndN (rndsN (ks.take t) (ws.take t) v) (ks.getD t 0) (ws.getD t 0) := by
  induction t with
  | zero =>
    intro ks ws v hk hw
    cases ks with
    | nil => simp at hk
    | cons k ks => cases ws with
      | nil => simp at hw
      | cons w ws => simp [rndsN]
  | succ t ih =>
    intro ks ws v hk hw
    cases ks with
    | nil => simp at hk
    | cons k ks => cases ws with
      | nil => simp at hw
      | cons w ws =>
        have := ih (ks := ks) (ws := ws) (v := rndN v k w) (by simpa using hk) (by simpa using hw)
        simpa [rndsN] using this
theorem set8 {V : List Nat} (h : V.length = 8) (a b c d e f g i : Nat) : (((((((V.set 0 a).set 1 b).set 2 c).set 3 d).set 4 e).set 5 f).set 6 g).set 7 i = [a, b, c, d, e, f, g, i] := by
  rcases V with _ | ⟨_, _ | ⟨_, _ | ⟨_, _ | ⟨_, _ | ⟨_, _ | ⟨_, _ | ⟨_, _ | ⟨_, _ | ⟨_, _⟩⟩⟩⟩⟩⟩⟩⟩⟩ <;> simp at h
  rfl
theorem addJ {V h : List Nat} {k : Nat} (hV : V.length = 8) (hh : h.length = 8) (hk : k < 8) : (addN (V.take k) (h.take k) ++ V.drop k).set k ((V.getD k 0 + h.getD k 0) % 4294967296) = addN (V.take (k + 1)) (h.take (k + 1)) ++ V.drop (k + 1) := by
  unfold addN
  have e1 : V.take (k + 1) = V.take k ++ [V.getD k 0] := by rw [List.take_succ_eq_append_getElem (by omega)]; simp [List.getD_eq_getElem?_getD, show k < V.length by omega]
  have e2 : h.take (k + 1) = h.take k ++ [h.getD k 0] := by rw [List.take_succ_eq_append_getElem (by omega)]; simp [List.getD_eq_getElem?_getD, show k < h.length by omega]
  have e3 : V.drop k = V.getD k 0 :: V.drop (k + 1) := by rw [List.drop_eq_getElem_cons (by omega)]; simp [List.getD_eq_getElem?_getD, show k < V.length by omega]
  have hl : (List.zipWith (fun x y => (x + y) % 4294967296) (V.take k) (h.take k)).length = k := by simp; omega
  rw [e1, e2, e3, List.set_append, if_neg (by omega), hl, Nat.sub_self, List.set_cons_zero, List.zipWith_append (by simp; omega)]
  simp
theorem addJ_at {V h : List Nat} {k : Nat} (hV : V.length = 8) (hh : h.length = 8) (hk : k < 8) : (addN (V.take k) (h.take k) ++ V.drop k).getD k 0 = V.getD k 0 := by
  unfold addN
  have hl : (List.zipWith (fun x y => (x + y) % 4294967296) (V.take k) (h.take k)).length = k := by simp; omega
  rw [List.getD_eq_getElem?_getD, List.getElem?_append_right (by omega), hl, Nat.sub_self, List.getElem?_drop, Nat.add_zero, List.getD_eq_getElem?_getD]
theorem addJ_len {V h : List Nat} {k : Nat} (hV : V.length = 8) (hh : h.length = 8) (hk : k ≤ 8) : (addN (V.take k) (h.take k) ++ V.drop k).length = 8 := by
  unfold addN; simp; omega
theorem info8 : (Tryz.prog.info? 219).map (·.size) = some 8 := by kernel_rfl
theorem info16 : (Tryz.prog.info? 224).map (·.size) = some 16 := by kernel_rfl
theorem sched_pad {x : List Nat} {k n : Nat} (h : W32 x) : W32 (schedN k x ++ List.replicate n 0) := by
  intro y hy
  rcases List.mem_append.1 hy with hy | hy
  · exact sched_W32 k x h y hy
  · rw [List.eq_of_mem_replicate hy]; decide
theorem sched_next {x : List Nat} {k a b c d : Nat} (hx : x.length = 16) (hk : k < 48) (hc : (schedN k x ++ List.replicate (48 - k) 0).getD k 0 = c) (ha : (schedN k x ++ List.replicate (48 - k) 0).getD (k + 1) 0 = a)
    (hd : (schedN k x ++ List.replicate (48 - k) 0).getD (k + 9) 0 = d) (hb : (schedN k x ++ List.replicate (48 - k) 0).getD (k + 14) 0 = b) :
    (((c + sg0 a) % 4294967296 + d) % 4294967296 + sg1 b) % 4294967296 = nextW (schedN k x) := by
  have hl : (schedN k x).length = 16 + k := by rw [sched_len, hx]
  have e : ∀ j, j < 16 + k → (schedN k x ++ List.replicate (48 - k) 0).getD j 0 = (schedN k x).getD j 0 := by
    intro j hj
    rw [List.getD_eq_getElem?_getD, List.getD_eq_getElem?_getD, List.getElem?_append_left (by omega)]
  unfold nextW
  rw [hl, show 16 + k - 16 = k by omega, show 16 + k - 15 = k + 1 by omega, show 16 + k - 7 = k + 9 by omega, show 16 + k - 2 = k + 14 by omega]
  rw [← e k (by omega), ← e (k + 1) (by omega), ← e (k + 9) (by omega), ← e (k + 14) (by omega), hc, ha, hd, hb]

theorem sched_set {x : List Nat} {k : Nat} (hx : x.length = 16) (hk : k < 48) : (schedN k x ++ List.replicate (48 - k) 0).set (k + 16) (nextW (schedN k x)) = schedN (k + 1) x ++ List.replicate (48 - (k + 1)) 0 := by
  have hl : (schedN k x).length = 16 + k := by rw [sched_len, hx]
  obtain ⟨m, hm⟩ : ∃ m, 48 - k = m + 1 := ⟨47 - k, by omega⟩
  rw [hm, show 48 - (k + 1) = m by omega, List.replicate_succ, List.set_append, if_neg (by omega), show k + 16 - (schedN k x).length = 0 by omega, List.set_cons_zero, sched_snoc, List.append_assoc]
  rfl

set_option maxHeartbeats 4000000 in
theorem block_any (h x : List Nat) (w : World) (hh : h.length = 8) (hx : x.length = 16) (wh : W32 h) (wx : W32 x) :
    Calls Tryz.prog 214 #[.agg (wv h).toArray, .agg (wv x).toArray] w fun e w' => e = .returned (.agg (wv (blockN h x)).toArray) ∧ Below w.heap.size w w' := by
  have HH := Lib.hid hh
  have HX := Lib.hid hx
  clear hh hx
  go_enter Tryz.func214, Tryz.ntmps214
  go_wp2_with fail
  obtain ⟨w0, hw0, a0, a1, a2, a3, az, hb0⟩ := new4 w (.cells (wv h).toArray 219) (.cells (wv x).toArray 224) (.cells (wv (List.replicate 8 0)).toArray 219) (.cells (wv (List.replicate 64 0)).toArray 245)
  generalize hW0 : World.alloc _ _ = w00
  obtain rfl : w0 = w00 := by rw [← hw0, ← hW0]; kernel_rfl
  clear hW0 hw0
  go_still_tail 2, (by kernel_rfl)
  change wpList _ _ _ _ _ (World.drew w0)
  have hsp : splice (wv (List.replicate 64 0)) 0 (wv x) = wv (x ++ List.replicate 48 0) := by
    unfold splice
    rw [List.take_zero, List.nil_append, Nat.zero_add, wv_len, HX.out]
    simp [wv]
  go_wp2_with (refine wpList_copy_splice rfl (.tmp 22) (.tmp 23) 220 220 rfl 218 Tryz.underlying220 (by kernel_rfl) _ _ 64 64 16 16 rfl rfl (w.heap.size + 1 + 1 + 1) 0 (wv (List.replicate 64 0)) 245 a3 (wv x) (by rw [wv_len, HX.out]; rfl) (fun _ => ⟨rfl, _, rfl, fun j v hv => by have e : (⟨w.heap.size + 1, 0, none⟩ : Addr).add j = ⟨w.heap.size + 1, j, none⟩ := (by unfold Addr.add; by_cases h : j = 0 <;> simp [h]); rw [e, cell_of_row _ _ j _ _ _ (show w0.drew.heap[w.heap.size + 1]? = _ from a1)]; simpa using hv⟩) (by rw [wv_len, wv_len, HX.out]; decide) (wv_one _) (w.heap.size + 1 + 1 + 1) w0 (Below.refl _ _).drew (Nat.le_refl _) ?_; intro w1 hg1 hb1)
  have hg1' := hg1.out
  rw [hsp] at hg1'
  have HG1 := Lib.hid hg1'
  clear hg1 hg1' hsp
  go_loopw [6] (fun i wr => ∃ k : Nat, k ≤ 48 ∧ i = .int .i64 ((k : Int) + 16) ∧ Hid (wr.heap[w.heap.size + 1 + 1 + 1]? = some (.cells (wv (schedN k x ++ List.replicate (48 - k) 0)).toArray 245 (0, 0))) ∧ Below (w.heap.size + 1 + 1 + 1) w0 wr) (fun i _ => 64 - (intOf i).toNat)
  case atStart => exact ⟨0, Nat.zero_le _, rfl, HG1, hb1⟩
  case round =>
    obtain ⟨k, hk, rfl, hg, hb⟩ := hrel
    by_cases hlt : k < 48
    · have hlen : (schedN k x ++ List.replicate (48 - k) 0).length = 64 := by rw [List.length_append, sched_len, HX.out]; simp; omega
      have HL := Lib.hid hlen
      clear hlen
      have c15 := row_wv (j := k + 1) hg.out (by rw [HL.out]; omega)
      have c2 := row_wv (j := k + 14) hg.out (by rw [HL.out]; omega)
      have c16 := row_wv (j := k) hg.out (by rw [HL.out]; omega)
      have c7 := row_wv (j := k + 9) hg.out (by rw [HL.out]; omega)
      have c0 := row_wv (j := k + 16) hg.out (by rw [HL.out]; omega)
      have fz := row_free hg.out
      obtain ⟨a, ha⟩ : ∃ a, (schedN k x ++ List.replicate (48 - k) 0).getD (k + 1) 0 = a := ⟨_, rfl⟩
      obtain ⟨b, hb'⟩ : ∃ b, (schedN k x ++ List.replicate (48 - k) 0).getD (k + 14) 0 = b := ⟨_, rfl⟩
      obtain ⟨c, hc⟩ : ∃ c, (schedN k x ++ List.replicate (48 - k) 0).getD k 0 = c := ⟨_, rfl⟩
      obtain ⟨d, hd⟩ : ∃ d, (schedN k x ++ List.replicate (48 - k) 0).getD (k + 9) 0 = d := ⟨_, rfl⟩
      rw [ha] at c15
      rw [hb'] at c2
      rw [hc] at c16
      rw [hd] at c7
      have HA := Lib.hid ha
      have HB := Lib.hid hb'
      have HC := Lib.hid hc
      have HD := Lib.hid hd
      clear ha hb' hc hd
      have wa : a < 4294967296 := by rw [← HA.out]; exact W32.at_ (sched_pad wx) _
      have wb : b < 4294967296 := by rw [← HB.out]; exact W32.at_ (sched_pad wx) _
      have hn : (((c + sg0 a) % 4294967296 + d) % 4294967296 + sg1 b) % 4294967296 = nextW (schedN k x) := sched_next HX.out hlt HC.out HA.out HD.out HB.out
      have HN := Lib.hid hn
      clear hn
      obtain ⟨y1, hy1⟩ : ∃ y, y = (c + sg0 a) % 4294967296 := ⟨_, rfl⟩
      obtain ⟨y2, hy2⟩ : ∃ y, y = (y1 + d) % 4294967296 := ⟨_, rfl⟩
      obtain ⟨y3, hy3⟩ : ∃ y, y = (y2 + sg1 b) % 4294967296 := ⟨_, rfl⟩
      have e15 : IntKind.i64.wrap ((k : Int) + 16 - 15) = (k : Int) + 1 := by rw [show ((k : Int) + 16 - 15) = (k : Int) + 1 by omega]; exact IntWalk.i64_in _ (by omega)
      have e2 : IntKind.i64.wrap ((k : Int) + 16 - 2) = (k : Int) + 14 := by rw [show ((k : Int) + 16 - 2) = (k : Int) + 14 by omega]; exact IntWalk.i64_in _ (by omega)
      have e16 : IntKind.i64.wrap ((k : Int) + 16 - 16) = (k : Int) := by rw [show ((k : Int) + 16 - 16) = (k : Int) by omega]; exact IntWalk.i64_in _ (by omega)
      have e7 : IntKind.i64.wrap ((k : Int) + 16 - 7) = (k : Int) + 9 := by rw [show ((k : Int) + 16 - 7) = (k : Int) + 9 by omega]; exact IntWalk.i64_in _ (by omega)
      have e16' : IntKind.i64.wrap (k : Int) = (k : Int) := IntWalk.i64_in _ (by omega)
      have n1 : ((k : Int) + 1).toNat = k + 1 := by omega
      have n14 : ((k : Int) + 14).toNat = k + 14 := by omega
      have n9 : ((k : Int) + 9).toNat = k + 9 := by omega
      have n16 : ((k : Int) + 16).toNat = k + 16 := by omega
      have b1 : (0 : Int) ≤ (k : Int) + 1 := by omega
      have b14 : (0 : Int) ≤ (k : Int) + 14 := by omega
      have b9 : (0 : Int) ≤ (k : Int) + 9 := by omega
      have b16 : (0 : Int) ≤ (k : Int) + 16 := by omega
      have t1 : (k : Int) + 1 < 64 := by omega
      have t14 : (k : Int) + 14 < 64 := by omega
      have t9 : (k : Int) + 9 < 64 := by omega
      have t0 : (k : Int) < 64 := by omega
      have t16 : (k : Int) + 16 < 64 := by omega
      have X1 : bits .xor .u32 (bits .xor .u32 ((rotN a 7 : Nat) : Int) ((rotN a 18 : Nat) : Int)) ((a : Int) / 8) = ((sg0 a : Nat) : Int) := by
        rw [xor32 (rot_lt wa (by decide)) (rot_lt wa (by decide)), show ((a : Int) / 8) = ((a / 8 : Nat) : Int) by simp, xor32 (xor_lt (rot_lt wa (by decide)) (rot_lt wa (by decide))) (Nat.lt_of_le_of_lt (Nat.div_le_self _ _) wa)]; rfl
      have X2 : bits .xor .u32 (bits .xor .u32 ((rotN b 17 : Nat) : Int) ((rotN b 19 : Nat) : Int)) ((b : Int) / 1024) = ((sg1 b : Nat) : Int) := by
        rw [xor32 (rot_lt wb (by decide)) (rot_lt wb (by decide)), show ((b : Int) / 1024) = ((b / 1024 : Nat) : Int) by simp, xor32 (xor_lt (rot_lt wb (by decide)) (rot_lt wb (by decide))) (Nat.lt_of_le_of_lt (Nat.div_le_self _ _) wb)]; rfl
      have Y1 : IntKind.u32.wrap ((c : Int) + (sg0 a : Nat)) = (y1 : Int) := by rw [add32, hy1]
      have Y2 : IntKind.u32.wrap ((y1 : Int) + (d : Int)) = (y2 : Int) := by rw [add32, hy2]
      have Y3 : IntKind.u32.wrap ((y2 : Int) + (sg1 b : Nat)) = (y3 : Int) := by rw [add32, hy3]
      have HY : Hid (y3 = nextW (schedN k x)) := Lib.hid (by rw [hy3, hy2, hy1]; exact HN.out)
      clear hy1 hy2 hy3 HN
      go_wp2
      go_quiet (fail)
      go_wp2_with (first | (go_at_call 239; (with_reducible refine (rot7 _ _ wa).mono ?_); rintro e w' ⟨rfl, rfl⟩) | (go_at_call 239; (with_reducible refine (rot18 _ _ wa).mono ?_); rintro e w' ⟨rfl, rfl⟩) | (go_at_call 239; (with_reducible refine (rot17 _ _ wb).mono ?_); rintro e w' ⟨rfl, rfl⟩) | (go_at_call 239; (with_reducible refine (rot19 _ _ wb).mono ?_); rintro e w' ⟨rfl, rfl⟩))
      go_region
      go_wp2
      go_roundw
      case rel => exact ⟨k + 1, by omega, by go_num, Lib.hid (by rw [← sched_set HX.out hlt, ← HY.out]; exact row_wset (w := wr.drewN (nq + 1)) (k + 16) y3 hg.out), bSg (bNg hb _) (Nat.le_refl _) _⟩
      case measure => simp [intOf]; omega
    · obtain rfl : k = 48 := by omega
      have hg' := hg.out
      rw [show 48 - 48 = 0 from rfl, List.replicate_zero, List.append_nil] at hg'
      obtain ⟨ws, hws⟩ : ∃ ws, schedN 48 x = ws := ⟨_, rfl⟩
      have hwl : ws.length = 64 := by rw [← hws, sched_len, HX.out]
      have www : W32 ws := by rw [← hws]; exact sched_W32 _ _ wx
      rw [hws] at hg'
      have HWS : Hid (∀ n, n = 48 → schedN n x = ws) := Lib.hid (fun n e => by rw [e, hws])
      have HG := Lib.hid hg'
      have HWL := Lib.hid hwl
      have gh := (hb.block w.heap.size (by omega)).trans a0
      clear hg hg' hws hwl hlt hk
      obtain ⟨wo, rfl⟩ : ∃ wo : World, wo = wr := ⟨_, rfl⟩
      have hgl : w.heap.size + 1 + 1 + 1 < wo.heap.size := (Array.getElem?_eq_some_iff.1 HG.out).1
      obtain ⟨w2, hw2, gv, hb2, hz2⟩ := newRow wo (wv (List.replicate 8 0)).toArray (wv h).toArray 219
      have gs := (hb2.block _ (by omega)).trans HG.out
      have gh2 := (hb2.block _ (by omega)).trans gh
      have HB2 := Lib.hid (bTg (bTg hb0 hb (by omega)) hb2 (by omega))
      have HZ2 := Lib.hid hz2
      have HW2 := Lib.hid hw2
      clear hz2 hw2 az
      go_wp2_with (first | (refine wpList_load_row rfl 219 (.tmp 2) rfl w.heap.size rfl 219 (wv h).toArray (0, 0) _ gh Tryz.underlying219 rfl (by rw [List.size_toArray, wv_len, HH.out]; exact info8) ?_) | (refine wpList_store_row rfl 219 _ _ rfl wo.heap.size (wv h).toArray rfl rfl 219 _ (heap_alloc_new wo _) (by rw [List.size_toArray, wv_len, HH.out]; exact info8) (show 8 = (wv h).toArray.size by rw [List.size_toArray, wv_len, HH.out]) (all_one (wv_one _)) ?_; generalize hW2 : World.setRow _ _ _ = w22; obtain rfl : w2 = w22 := (by rw [← HW2.out, ← hW2]; kernel_rfl)))
      go_loopw [69] (fun i wq => ∃ t : Nat, t ≤ 64 ∧ i = .int .i64 (t : Int) ∧ Hid (wq.heap[wo.heap.size]? = some (.cells (wv (rndsN (kN.take t) (ws.take t) h)).toArray 219 (0, 0))) ∧ Below wo.heap.size w2 wq) (fun i _ => 64 - (intOf i).toNat)
      case atStart => exact ⟨0, Nat.zero_le _, rfl, Lib.hid gv, ⟨rfl, rfl, rfl, by have := HZ2.out; omega, fun _ _ => rfl⟩⟩
      case round =>
        obtain ⟨t, ht, rfl, hg, hbq⟩ := hrel
        by_cases hlt : t < 64
        · obtain ⟨V, hV⟩ : ∃ V, rndsN (kN.take t) (ws.take t) h = V := ⟨_, rfl⟩
          have hVl : V.length = 8 := by rw [← hV]; exact rnds_len HH.out
          have hVw : W32 V := by rw [← hV]; exact rnds_W32 wh
          rw [hV] at hg
          have c0 := row_wv (j := 0) hg.out (by omega)
          have c1 := row_wv (j := 1) hg.out (by omega)
          have c2 := row_wv (j := 2) hg.out (by omega)
          have c3 := row_wv (j := 3) hg.out (by omega)
          have c4 := row_wv (j := 4) hg.out (by omega)
          have c5 := row_wv (j := 5) hg.out (by omega)
          have c6 := row_wv (j := 6) hg.out (by omega)
          have c7 := row_wv (j := 7) hg.out (by omega)
          have gs' := (hbq.block _ (by omega)).trans gs
          have cw := row_wv (j := t) gs' (by rw [HWL.out]; omega)
          have l0 := hVw.at_ 0
          have l1 := hVw.at_ 1
          have l2 := hVw.at_ 2
          have l3 := hVw.at_ 3
          have l4 := hVw.at_ 4
          have l5 := hVw.at_ 5
          have l6 := hVw.at_ 6
          have HV := Lib.hid hV
          have HVL := Lib.hid hVl
          clear hV hVl gs'
          obtain ⟨va, hva⟩ : ∃ y, V.getD 0 0 = y := ⟨_, rfl⟩
          obtain ⟨vb, hvb⟩ : ∃ y, V.getD 1 0 = y := ⟨_, rfl⟩
          obtain ⟨vc, hvc⟩ : ∃ y, V.getD 2 0 = y := ⟨_, rfl⟩
          obtain ⟨vd, hvd⟩ : ∃ y, V.getD 3 0 = y := ⟨_, rfl⟩
          obtain ⟨ve, hve⟩ : ∃ y, V.getD 4 0 = y := ⟨_, rfl⟩
          obtain ⟨vf, hvf⟩ : ∃ y, V.getD 5 0 = y := ⟨_, rfl⟩
          obtain ⟨vg, hvg⟩ : ∃ y, V.getD 6 0 = y := ⟨_, rfl⟩
          obtain ⟨vh, hvh⟩ : ∃ y, V.getD 7 0 = y := ⟨_, rfl⟩
          obtain ⟨wt, hwt⟩ : ∃ y, ws.getD t 0 = y := ⟨_, rfl⟩
          obtain ⟨kt, hkt⟩ : ∃ y, kN.getD t 0 = y := ⟨_, rfl⟩
          rw [hva] at c0 l0
          rw [hvb] at c1 l1
          rw [hvc] at c2 l2
          rw [hvd] at c3 l3
          rw [hve] at c4 l4
          rw [hvf] at c5 l5
          rw [hvg] at c6 l6
          rw [hvh] at c7
          rw [hwt] at cw
          have HT1 : Hid (t1N V kt wt = ((((vh + bs1 ve) % 4294967296 + chN ve vf vg) % 4294967296 + kt) % 4294967296 + wt) % 4294967296) := Lib.hid (by unfold t1N; rw [hvh, hve, hvf, hvg])
          have HT2 : Hid (t2N V = (bs0 va + majN va vb vc) % 4294967296) := Lib.hid (by unfold t2N; rw [hva, hvb, hvc])
          have HRN : Hid (rndN V kt wt = [(t1N V kt wt + t2N V) % 4294967296, va, vb, vc, (vd + t1N V kt wt) % 4294967296, ve, vf, vg]) := Lib.hid (by unfold rndN; rw [hva, hvb, hvc, hvd, hve, hvf, hvg])
          have HVD := Lib.hid hvd
          have HKT := Lib.hid hkt
          have HWT := Lib.hid hwt
          clear hva hvb hvc hvd hve hvf hvg hvh hwt hkt
          obtain ⟨z1, hz1⟩ : ∃ y, y = (vh + bs1 ve) % 4294967296 := ⟨_, rfl⟩
          obtain ⟨z2, hz2⟩ : ∃ y, y = (z1 + chN ve vf vg) % 4294967296 := ⟨_, rfl⟩
          obtain ⟨z3, hz3⟩ : ∃ y, y = (z2 + kt) % 4294967296 := ⟨_, rfl⟩
          obtain ⟨t1, ht1⟩ : ∃ y, y = (z3 + wt) % 4294967296 := ⟨_, rfl⟩
          obtain ⟨t2, ht2⟩ : ∃ y, y = (bs0 va + majN va vb vc) % 4294967296 := ⟨_, rfl⟩
          obtain ⟨n0, hn0⟩ : ∃ y, y = (t1 + t2) % 4294967296 := ⟨_, rfl⟩
          obtain ⟨n4, hn4⟩ : ∃ y, y = (vd + t1) % 4294967296 := ⟨_, rfl⟩
          have Z1 : bits .xor .u32 (bits .xor .u32 ((rotN ve 6 : Nat) : Int) ((rotN ve 11 : Nat) : Int)) ((rotN ve 25 : Nat) : Int) = ((bs1 ve : Nat) : Int) := by
            rw [xor32 (rot_lt l4 (by decide)) (rot_lt l4 (by decide)), xor32 (xor_lt (rot_lt l4 (by decide)) (rot_lt l4 (by decide))) (rot_lt l4 (by decide))]; rfl
          have Z2 : bits .xor .u32 (bits .xor .u32 ((rotN va 2 : Nat) : Int) ((rotN va 13 : Nat) : Int)) ((rotN va 22 : Nat) : Int) = ((bs0 va : Nat) : Int) := by
            rw [xor32 (rot_lt l0 (by decide)) (rot_lt l0 (by decide)), xor32 (xor_lt (rot_lt l0 (by decide)) (rot_lt l0 (by decide))) (rot_lt l0 (by decide))]; rfl
          have Z3 : bits .xor .u32 (bits .and .u32 (ve : Int) (vf : Int)) (bits .and .u32 (bits .xor .u32 4294967295 (ve : Int)) (vg : Int)) = ((chN ve vf vg : Nat) : Int) := by
            rw [and32 l4 l5, show (4294967295 : Int) = ((4294967295 : Nat) : Int) from rfl, xor32 (by decide) l4, and32 (xor_lt (by decide) l4) l6, xor32 (and_lt l4) (and_lt' l6)]; rfl
          have Z4 : bits .xor .u32 (bits .xor .u32 (bits .and .u32 (va : Int) (vb : Int)) (bits .and .u32 (va : Int) (vc : Int))) (bits .and .u32 (vb : Int) (vc : Int)) = ((majN va vb vc : Nat) : Int) := by
            rw [and32 l0 l1, and32 l0 l2, and32 l1 l2, xor32 (and_lt l0) (and_lt l0), xor32 (xor_lt (and_lt l0) (and_lt l0)) (and_lt l1)]; rfl
          have A1 : IntKind.u32.wrap ((vh : Int) + (bs1 ve : Nat)) = (z1 : Int) := by rw [add32, hz1]
          have A2 : IntKind.u32.wrap ((z1 : Int) + (chN ve vf vg : Nat)) = (z2 : Int) := by rw [add32, hz2]
          have A3 : IntKind.u32.wrap ((z2 : Int) + (kt : Int)) = (z3 : Int) := by rw [add32, hz3]
          have A4 : IntKind.u32.wrap ((z3 : Int) + (wt : Int)) = (t1 : Int) := by rw [add32, ht1]
          have A5 : IntKind.u32.wrap ((bs0 va : Nat) + (majN va vb vc : Nat) : Int) = (t2 : Int) := by rw [add32, ht2]
          have A6 : IntKind.u32.wrap ((t1 : Int) + (t2 : Int)) = (n0 : Int) := by rw [add32, hn0]
          have A7 : IntKind.u32.wrap ((vd : Int) + (t1 : Int)) = (n4 : Int) := by rw [add32, hn4]
          have HN : Hid (rndN V kt wt = [n0, va, vb, vc, n4, ve, vf, vg]) := Lib.hid (by rw [HRN.out, HT1.out, HT2.out, hn0, hn4, ht2, ht1, hz3, hz2, hz1])
          clear hz1 hz2 hz3 ht1 ht2 hn0 hn4 HRN HT1 HT2 l1 l2 l3 l5 l6
          go_wp2
          go_quiet (fail)
          go_wp2
          obtain ⟨wq, hwq⟩ : ∃ wq, wr.drewN nq = wq := ⟨_, rfl⟩
          have hgq : wq.heap[wo.heap.size]? = some (.cells (wv V).toArray 219 (0, 0)) := by rw [← hwq]; exact hg.out
          have hS : Below wo.heap.size w2 wq ∧ wq.cell? ⟨wo.heap.size, 7, none⟩ = some (.int .u32 (vh : Int)) ∧ wq.cell? ⟨w.heap.size + 1 + 1 + 1, t, none⟩ = some (.int .u32 (wt : Int)) := by rw [← hwq]; exact ⟨bNg hbq _, c7, cw⟩
          have hqz : wo.heap.size ≤ wq.heap.size := Nat.le_of_lt (Array.getElem?_eq_some_iff.1 hgq).1
          have hsg : IntKind.u32.signed = false := rfl
          have hmx : IntKind.u32.max = 4294967295 := by decide
          have HGQ := Lib.hid hgq
          rw [hwq]
          clear hwq hgq c0 c1 c2 c3 c4 c5 c6 c7 cw hg hbq
          go_region_held3 (fun w9 => Below wo.heap.size w2 w9 ∧ w9.cell? ⟨wo.heap.size, 7, none⟩ = some (.int .u32 (vh : Int)) ∧ w9.cell? ⟨w.heap.size + 1 + 1 + 1, t, none⟩ = some (.int .u32 (wt : Int))) (first | assumption | exact ⟨hS.1.drew, hS.2⟩ | exact keep_b2 ⟨hS.1.drew, hS.2⟩ hqz hb)
            (first | (go_at_call 239; (with_reducible refine (rot6 _ _ l4).mono ?_); rintro e w' ⟨rfl, rfl⟩) | (go_at_call 239; (with_reducible refine (rot11 _ _ l4).mono ?_); rintro e w' ⟨rfl, rfl⟩) | (go_at_call 239; (with_reducible refine (rot25 _ _ l4).mono ?_); rintro e w' ⟨rfl, rfl⟩) | (go_at_call 240; (with_reducible refine (const_at _ _ hlt HKT.out).mono ?_); rintro e w' ⟨rfl, hb⟩))
          have hS2 : Below wo.heap.size w2 w' ∧ w'.heap[wo.heap.size]? = some (.cells (wv V).toArray 219 (0, 0)) := ⟨(by assumption : _ ∧ _).1, (hb.block wo.heap.size (by show _ < wq.heap.size; exact (Array.getElem?_eq_some_iff.1 HGQ.out).1)).trans HGQ.out⟩
          have c3 := row_wv (j := 3) hS2.2 (by rw [HVL.out]; decide)
          rw [HVD.out] at c3
          have HB3 := Lib.hid hS2
          clear hb hS hS2
          have d0 := row_wv (j := 0) HB3.out.2 (by rw [HVL.out]; decide)
          have d1 := row_wv (j := 1) HB3.out.2 (by rw [HVL.out]; decide)
          have d2 := row_wv (j := 2) HB3.out.2 (by rw [HVL.out]; decide)
          have d4 := row_wv (j := 4) HB3.out.2 (by rw [HVL.out]; decide)
          have d5 := row_wv (j := 5) HB3.out.2 (by rw [HVL.out]; decide)
          have d6 := row_wv (j := 6) HB3.out.2 (by rw [HVL.out]; decide)
          have d7 := row_wv (j := 7) HB3.out.2 (by rw [HVL.out]; decide)
          have fz := row_free HB3.out.2
          go_wp2_with (first | (go_at_call 239; (with_reducible refine (rot2 _ _ l0).mono ?_); rintro e w9 ⟨rfl, rfl⟩) | (go_at_call 239; (with_reducible refine (rot13 _ _ l0).mono ?_); rintro e w9 ⟨rfl, rfl⟩) | (go_at_call 239; (with_reducible refine (rot22 _ _ l0).mono ?_); rintro e w9 ⟨rfl, rfl⟩))
          go_roundw
          case rel => exact ⟨t + 1, by omega, by go_num, Lib.hid (by rw [rnds_snoc (by rw [k_len]; omega) (by rw [HWL.out]; omega), HV.out, HKT.out, HWT.out, HN.out, ← set8 HVL.out n0 va vb vc n4 ve vf vg]; exact row_wset 7 vg (row_wset 6 vf (row_wset 5 ve (row_wset 4 n4 (row_wset 3 vc (row_wset 2 vb (row_wset 1 va (row_wset 0 n0 (HB3.out.2))))))))), bSg (bSg (bSg (bSg (bSg (bSg (bSg (bSg (HB3.out.1) (Nat.le_refl _) _) (Nat.le_refl _) _) (Nat.le_refl _) _) (Nat.le_refl _) _) (Nat.le_refl _) _) (Nat.le_refl _) _) (Nat.le_refl _) _) (Nat.le_refl _) _⟩
          case measure => simp [intOf]; omega
        · obtain rfl : t = 64 := by omega
          rw [List.take_of_length_le (show kN.length ≤ 64 by rw [k_len]; exact Nat.le_refl _), List.take_of_length_le (show ws.length ≤ 64 by rw [HWL.out]; exact Nat.le_refl _)] at hg
          obtain ⟨V, hV⟩ : ∃ V, rndsN kN ws h = V := ⟨_, rfl⟩
          have hVl : V.length = 8 := by rw [← hV]; exact rnds_len HH.out
          rw [hV] at hg
          have HV := Lib.hid hV
          have HVL := Lib.hid hVl
          have HG3 := Lib.hid hg
          have gh3 := (hbq.block _ (by omega)).trans gh2
          have HBB := Lib.hid (bTg HB2.out hbq (by omega))
          clear hV hVl hg
          obtain ⟨w3, rfl⟩ : ∃ w3 : World, w3 = wr := ⟨_, rfl⟩
          go_wp2
          go_loopw [146] (fun i wq => ∃ t : Nat, t ≤ 8 ∧ i = .int .i64 (t : Int) ∧ Hid (wq.heap[wo.heap.size]? = some (.cells (wv (addN (V.take t) (h.take t) ++ V.drop t)).toArray 219 (0, 0))) ∧ Below wo.heap.size w3 wq) (fun i _ => 8 - (intOf i).toNat)
          case atStart => exact ⟨0, Nat.zero_le _, rfl, Lib.hid (by have h := HG3.out.out; simpa [addN] using h), Below.refl _ _⟩
          case round =>
            obtain ⟨t, ht, rfl, hg, hb4⟩ := hrel
            by_cases hlt : t < 8
            · have cv := row_wv (j := t) hg.out (by rw [addJ_len HVL.out HH.out (by omega)]; omega)
              rw [addJ_at HVL.out HH.out hlt] at cv
              have ch := row_wv (j := t) ((hb4.block _ (by omega)).trans gh3) (by rw [HH.out]; omega)
              have fz := row_free hg.out
              obtain ⟨x1, hx1⟩ : ∃ y, V.getD t 0 = y := ⟨_, rfl⟩
              obtain ⟨x2, hx2⟩ : ∃ y, h.getD t 0 = y := ⟨_, rfl⟩
              rw [hx1] at cv
              rw [hx2] at ch
              obtain ⟨x3, hx3⟩ : ∃ y, (x1 + x2) % 4294967296 = y := ⟨_, rfl⟩
              have A1 : IntKind.u32.wrap ((x1 : Int) + (x2 : Int)) = (x3 : Int) := by rw [add32, hx3]
              have HX3 : Hid (x3 = (V.getD t 0 + h.getD t 0) % 4294967296) := Lib.hid (by rw [hx1, hx2, hx3])
              clear hx1 hx2 hx3
              go_wp2
              go_region
              go_wp2
              go_roundw
              case rel => exact ⟨t + 1, by omega, by go_num, Lib.hid (by rw [← addJ HVL.out HH.out hlt, ← HX3.out]; exact row_wset t x3 hg.out), bSg (bDg hb4) (Nat.le_refl _) _⟩
              case measure => simp [intOf]; omega
            · obtain rfl : t = 8 := by omega
              have hg' := hg.out
              rw [List.take_of_length_le (by rw [HVL.out]; exact Nat.le_refl _), List.take_of_length_le (by rw [HH.out]; exact Nat.le_refl _), List.drop_eq_nil_of_le (by rw [HVL.out]; exact Nat.le_refl _), List.append_nil] at hg'
              have hbl : Hid (addN V h = blockN h x) := Lib.hid (by unfold blockN; rw [HWS.out 48 rfl, HV.out])
              rw [hbl.out] at hg'
              obtain ⟨B, hB⟩ : ∃ B, blockN h x = B := ⟨_, rfl⟩
              have hBl : B.length = 8 := by rw [← hB]; exact block_len HH.out
              rw [hB] at hg'
              have HBL := Lib.hid hBl
              have HGB := Lib.hid hg'
              have HB := Lib.hid hB
              have gr : wr.heap[w.heap.size + 1 + 1]? = some (.cells (wv (List.replicate 8 0)).toArray 219 (0, 0)) := (hb4.block _ (by omega)).trans ((hbq.block _ (by omega)).trans ((hb2.block _ (by omega)).trans ((hb.block _ (by omega)).trans a2)))
              have HBE := Lib.hid (bTg HBB.out hb4 (by omega))
              clear hg hg' hbl hB hBl
              go_wp2_with (first | (refine wpList_load_row rfl 219 (.tmp 11) rfl wo.heap.size rfl 219 (wv B).toArray (0, 0) _ HGB.out Tryz.underlying219 rfl ?_ ?_; (focus (rw [List.size_toArray, wv_len, HBL.out]; exact info8))) | (refine wpList_store_row rfl 219 (.tmp 4) _ rfl (w.heap.size + 1 + 1) (wv B).toArray rfl rfl 219 _ gr ?_ ?_ (all_one (wv_one _)) ?_; (focus (rw [List.size_toArray, wv_len, HBL.out]; exact info8)); (focus (rw [List.size_toArray, wv_len, List.size_toArray, wv_len, HBL.out]; rfl))))
              refine bodyPost_ret (v := .agg (wv B).toArray) (results_cell_row rfl _ _ (w.heap.size + 1 + 1) 219 (wv B).toArray (0, 0) _ rfl (setRow_heap _ _ _ _ _ _ gr) Tryz.underlying219 rfl (by rw [List.size_toArray, wv_len, HBL.out]; exact info8)) rfl ⟨by rw [← HB.out], setRow_below HBE.out (by omega)⟩
end Go.Proofs.YtnbghgenaolfgaaGreat

namespace Go.Proofs.YtnbghgenaolfgaaGreat
open Go.RowKit
set_option linter.unusedVariables false
set_option maxRecDepth 100000
set_option linter.unusedSimpArgs false

def word4 (a b c d : Int) : Nat := a.toNat * 16777216 + b.toNat * 65536 + c.toNat * 256 + d.toNat
def wordsN : List Int → List Nat
  | a :: b :: c :: d :: t => word4 a b c d :: wordsN t
  | _ => []
def beW (x : Nat) : List Int := [(x : Int) / 16777216, (x : Int) / 65536 % 256, (x : Int) / 256 % 256, (x : Int) % 256]
def bytesN : List Nat → List Int
  | [] => []
  | x :: t => beW x ++ bytesN t
theorem word4_lt {a b c d : Int} (ha : 0 ≤ a ∧ a < 256) (hb : 0 ≤ b ∧ b < 256) (hc : 0 ≤ c ∧ c < 256) (hd : 0 ≤ d ∧ d < 256) : word4 a b c d < 4294967296 := by unfold word4; omega
theorem wordsN_len : ∀ (m : Nat) (l : List Int), l.length = 4 * m → (wordsN l).length = m
  | 0, l, h => by
    obtain rfl : l = [] := List.eq_nil_of_length_eq_zero (by omega)
    rfl
  | m + 1, l, h => by
    rcases l with _ | ⟨a, _ | ⟨b, _ | ⟨c, _ | ⟨d, t⟩⟩⟩⟩ <;> simp at h <;> try omega
    simp only [wordsN, List.length_cons]
    rw [wordsN_len m t (by omega)]
theorem wordsN_snoc : ∀ (k : Nat) (l : List Int), 4 * k + 4 ≤ l.length → wordsN (l.take (4 * (k + 1))) = wordsN (l.take (4 * k)) ++ [word4 (l.getD (4 * k) 0) (l.getD (4 * k + 1) 0) (l.getD (4 * k + 2) 0) (l.getD (4 * k + 3) 0)]
  | 0, l, h => by
    rcases l with _ | ⟨a, _ | ⟨b, _ | ⟨c, _ | ⟨d, t⟩⟩⟩⟩ <;> simp at h
    simp [wordsN]
  | k + 1, l, h => by
    rcases l with _ | ⟨a, _ | ⟨b, _ | ⟨c, _ | ⟨d, t⟩⟩⟩⟩ <;> simp at h <;> try omega
    have ih := wordsN_snoc k t (by omega)
    rw [show 4 * (k + 1 + 1) = (4 * (k + 1)) + 1 + 1 + 1 + 1 by omega, show 4 * (k + 1) = 4 * k + 1 + 1 + 1 + 1 by omega]
    simp only [List.take_succ_cons, wordsN, List.getD_cons_succ, List.cons_append]
    rw [show 4 * k + 1 + 1 + 1 + 1 = 4 * (k + 1) by omega, ih]
theorem wordsN_W32 : ∀ (l : List Int), (∀ x ∈ l, 0 ≤ x ∧ x < 256) → W32 (wordsN l)
  | a :: b :: c :: d :: t, h => fun x hx => by
    simp only [wordsN, List.mem_cons] at hx
    rcases hx with rfl | hx
    · exact word4_lt (h a (by simp)) (h b (by simp)) (h c (by simp)) (h d (by simp))
    · exact wordsN_W32 t (fun y hy => h y (by simp [hy])) x hx
  | [], _ => by simp [W32, wordsN]
  | [_], _ => by simp [W32, wordsN]
  | [_, _], _ => by simp [W32, wordsN]
  | [_, _, _], _ => by simp [W32, wordsN]
theorem words_at {l : List Int} {m k : Nat} (hl : l.length = 4 * m) (hk : k < m) : (wv (wordsN (l.take (4 * k)) ++ List.replicate (m - k) 0))[k]? = some (.int .u32 0) := by
  have h1 : (wordsN (l.take (4 * k))).length = k := wordsN_len k _ (by rw [List.length_take]; omega)
  obtain ⟨j, hj⟩ : ∃ j, m - k = j + 1 := ⟨m - k - 1, by omega⟩
  rw [wv, List.getElem?_map, List.getElem?_append_right (by omega), h1, Nat.sub_self, hj]
  rfl
theorem words_set {l : List Int} {m k y : Nat} (hl : l.length = 4 * m) (hk : k < m) (h : wordsN (l.take (4 * (k + 1))) = wordsN (l.take (4 * k)) ++ [y]) : (wv (wordsN (l.take (4 * k)) ++ List.replicate (m - k) 0)).set k (.int .u32 (y : Int)) = wv (wordsN (l.take (4 * (k + 1))) ++ List.replicate (m - (k + 1)) 0) := by
  have h1 : (wordsN (l.take (4 * k))).length = k := wordsN_len k _ (by rw [List.length_take]; omega)
  obtain ⟨j, hj⟩ : ∃ j, m - k = j + 1 := ⟨m - k - 1, by omega⟩
  rw [wv_set, h, hj, show m - (k + 1) = j by omega, List.replicate_succ, List.set_append, if_neg (by omega), h1, Nat.sub_self, List.set_cons_zero, List.append_assoc]
  rfl
theorem or4 {a b c d : Int} (ha : 0 ≤ a ∧ a < 256) (hb : 0 ≤ b ∧ b < 256) (hc : 0 ≤ c ∧ c < 256) (hd : 0 ≤ d ∧ d < 256) :
    bits .or .u32 (bits .or .u32 (bits .or .u32 (IntKind.u32.wrap (a * 16777216)) (IntKind.u32.wrap (b * 65536))) (IntKind.u32.wrap (c * 256))) d = ((word4 a b c d : Nat) : Int) := by
  have wr : ∀ n : Int, 0 ≤ n → n < 2 ^ 32 → IntKind.u32.wrap n = n := wraps_u32
  rw [wr (a * 16777216) (by omega) (by omega), wr (b * 65536) (by omega) (by omega), wr (c * 256) (by omega) (by omega)]
  have j1 : bits .or .u32 (a * 16777216) (b * 65536) = a * 16777216 + b * 65536 := bits_join .u32 32 (by decide) wraps_u32 24 (a * 16777216) (b * 65536) (by omega) (by omega) (by omega) (by omega) (by omega) (by omega)
  have j2 : bits .or .u32 (a * 16777216 + b * 65536) (c * 256) = a * 16777216 + b * 65536 + c * 256 := bits_join .u32 32 (by decide) wraps_u32 16 (a * 16777216 + b * 65536) (c * 256) (by omega) (by omega) (by omega) (by omega) (by omega) (by omega)
  have j3 : bits .or .u32 (a * 16777216 + b * 65536 + c * 256) d = a * 16777216 + b * 65536 + c * 256 + d := bits_join .u32 32 (by decide) wraps_u32 8 (a * 16777216 + b * 65536 + c * 256) d (by omega) (by omega) (by omega) (by omega) (by omega) (by omega)
  rw [j1, j2, j3]
  unfold word4
  omega
theorem infoU32 : (Tryz.prog.info? 218).map (fun i => (i.zero, i.size, i.bytes)) = some (some (.int .u32 0), 1, 4) := by kernel_rfl

set_option maxHeartbeats 4000000 in
theorem words_any (A : Option Addr) (c m : Nat) (l : List Int) (w : World) (hr : RdI w .u8 A l) (hl : l.length = 4 * m) (hlc : l.length ≤ c) (hm : m ≤ 1000000) (hb : ∀ x ∈ l, 0 ≤ x ∧ x < 256) :
    Calls Tryz.prog 213 #[.slice A l.length c] w fun e w' => ∃ g, e = .returned (.tuple #[.slice (some ⟨g, 0, none⟩) m m, .int .i64 0]) ∧ w'.ownsRow w.heap.size 218 1 (.slice (some ⟨g, 0, none⟩) m m) m (wv (wordsN l)) ∧ Below w.heap.size w w' := by
  obtain ⟨i0, hi, hz0, hz1, hz2⟩ := info_parts infoU32
  have d1 : (l.length : Int) % 4 = 0 := by omega
  have d2 : (l.length : Int) / 4 = (m : Int) := by omega
  have HL := Lib.hid hl
  clear hl
  go_enter Tryz.func213, Tryz.ntmps213
  go_wp2_with (first
    | (at_make; refine wpList_make_full _ rfl _ _ 220 rfl w.heap.size 218 i0 (.int .u32 0) 1 Tryz.underlying220 hi hz0 hz1 .i64 .i64 _ _ m rfl rfl rfl rfl (by rw [hz2]; omega) (by unfold maxLen; omega) (Nat.le_refl _) ?_; intro w1 hown hg))
  have hown2 : w1.ownsRow w.heap.size 218 1 (.slice (some ⟨w.heap.size, 0, none⟩) m m) m (wv (wordsN (l.take (4 * 0)) ++ List.replicate (m - 0) 0)) := by
    have e : (madeCells (Value.int .u32 0).cells (m * 1)).toList = wv (wordsN (l.take (4 * 0)) ++ List.replicate (m - 0) 0) := by
      show (madeCells #[Value.int .u32 0] (m * 1)).toList = _
      rw [toList_madeCells_one]; simp [wv, wordsN]
    rw [← e]; exact hown
  clear hown
  go_loopw [17] (fun i wr => ∃ k : Nat, k ≤ m ∧ i = .int .i64 k ∧ wr.ownsRow w.heap.size 218 1 (.slice (some ⟨w.heap.size, 0, none⟩) m m) m (wv (wordsN (l.take (4 * k)) ++ List.replicate (m - k) 0)) ∧ Below w.heap.size w wr) (fun i _ => m - (intOf i).toNat)
  case atStart => exact ⟨0, Nat.zero_le _, rfl, hown2, bG (bR _) hg (fun k h => by cases h)⟩
  case round =>
    obtain ⟨k, hk, rfl, ho, hbl⟩ := hrel
    by_cases hlt : k < m
    · obtain ⟨ad, rfl, q0⟩ := (hr.below hbl).at_ (j := 4 * k) (by rw [HL.out]; omega)
      obtain ⟨ad', ha', q1⟩ := (hr.below hbl).at_ (j := 4 * k + 1) (by rw [HL.out]; omega)
      obtain rfl := Option.some.inj ha'
      obtain ⟨ad', ha', q2⟩ := (hr.below hbl).at_ (j := 4 * k + 2) (by rw [HL.out]; omega)
      obtain rfl := Option.some.inj ha'
      obtain ⟨ad', ha', q3⟩ := (hr.below hbl).at_ (j := 4 * k + 3) (by rw [HL.out]; omega)
      obtain rfl := Option.some.inj ha'
      rw [← add_add] at q1 q2 q3
      obtain ⟨pd, hpd⟩ : ∃ pd, ad.add (4 * k) = pd := ⟨_, rfl⟩
      rw [hpd] at q0 q1 q2 q3
      have hx0 := hb _ (getD_mem (show 4 * k < l.length by rw [HL.out]; omega))
      have hx1 := hb _ (getD_mem (show 4 * k + 1 < l.length by rw [HL.out]; omega))
      have hx2 := hb _ (getD_mem (show 4 * k + 2 < l.length by rw [HL.out]; omega))
      have hx3 := hb _ (getD_mem (show 4 * k + 3 < l.length by rw [HL.out]; omega))
      have HSN := Lib.hid (wordsN_snoc k l (by rw [HL.out]; omega))
      generalize l.getD (4 * k) 0 = x0 at *
      generalize l.getD (4 * k + 1) 0 = x1 at *
      generalize l.getD (4 * k + 2) 0 = x2 at *
      generalize l.getD (4 * k + 3) 0 = x3 at *
      have hck : ¬ c = 4 * k := by have := HL.out; omega
      have n1 : (4 * (k : Int)).toNat = 4 * k := by omega
      have n2 : (4 * (k : Int) + 4).toNat = 4 * k + 4 := by omega
      have n3 : (4 * (k : Int) + 4 : Int) ≤ (c : Int) := by have := HL.out; omega
      have hcell := ho.cellAt k (by omega)
      rw [show (wv (wordsN (l.take (4 * k)) ++ List.replicate (m - k) 0))[k]? = some (.int .u32 0) from words_at HL.out hlt] at hcell
      have hfr := ho.frozenAt k
      obtain ⟨y, hy⟩ : ∃ y, word4 x0 x1 x2 x3 = y := ⟨_, rfl⟩
      have X : bits .or .u32 (bits .or .u32 (bits .or .u32 (IntKind.u32.wrap (x0 * 16777216)) (IntKind.u32.wrap (x1 * 65536))) (IntKind.u32.wrap (x2 * 256))) x3 = (y : Int) := by rw [← hy]; exact or4 hx0 hx1 hx2 hx3
      have w0 : IntKind.u32.wrap x0 = x0 := wraps_u32 _ (by omega) (by omega)
      have w1' : IntKind.u32.wrap x1 = x1 := wraps_u32 _ (by omega) (by omega)
      have w2' : IntKind.u32.wrap x2 = x2 := wraps_u32 _ (by omega) (by omega)
      have w3' : IntKind.u32.wrap x3 = x3 := wraps_u32 _ (by omega) (by omega)
      have HO := Lib.hid (ho.stored k (.int .u32 (y : Int)))
      have HY := Lib.hid hy
      have r0 : ({ heap := wr.heap, tape := wr.tape, drawn := wr.drawn + 1, os := wr.os, output := wr.output } : World).cell? pd = some (.int .u8 x0) := q0
      have r1 : ({ heap := wr.heap, tape := wr.tape, drawn := wr.drawn + 1, os := wr.os, output := wr.output } : World).cell? ⟨pd.block, pd.off + 1, none⟩ = some (.int .u8 x1) := q1
      have r2 : ({ heap := wr.heap, tape := wr.tape, drawn := wr.drawn + 1, os := wr.os, output := wr.output } : World).cell? ⟨pd.block, pd.off + 2, none⟩ = some (.int .u8 x2) := q2
      have r3 : ({ heap := wr.heap, tape := wr.tape, drawn := wr.drawn + 1, os := wr.os, output := wr.output } : World).cell? ⟨pd.block, pd.off + 3, none⟩ = some (.int .u8 x3) := q3
      have s0 : wr.cell? pd = some (.int .u8 x0) := q0
      have s1 : wr.cell? ⟨pd.block, pd.off + 1, none⟩ = some (.int .u8 x1) := q1
      have s2 : wr.cell? ⟨pd.block, pd.off + 2, none⟩ = some (.int .u8 x2) := q2
      have s3 : wr.cell? ⟨pd.block, pd.off + 3, none⟩ = some (.int .u8 x3) := q3
      clear hy q0 q1 q2 q3
      go_wp2
      go_still_tail 25, (by kernel_rfl)
      go_wp2
      go_roundw
      case rel => exact ⟨k + 1, by omega, by go_num, by rw [← words_set HL.out hlt (by rw [HSN.out, HY.out])]; exact HO.out.1, bD (bS hbl (Nat.le_refl _))⟩
      case measure => simp [intOf]; omega
    · obtain rfl : k = m := by omega
      have ho' := ho
      rw [Nat.sub_self, List.replicate_zero, List.append_nil, List.take_of_length_le (by rw [HL.out]; exact Nat.le_refl _)] at ho'
      have HO := Lib.hid ho'
      clear ho ho' hown2 hg
      go_wp2
      go_ret2
      exact ⟨_, rfl, HO.out, hbl⟩

theorem bytesN_len : ∀ (l : List Nat), (bytesN l).length = 4 * l.length
  | [] => rfl
  | x :: t => by simp only [bytesN, List.length_append, List.length_cons, bytesN_len t, beW, List.length_nil]; omega
theorem bytesN_app : ∀ (l m : List Nat), bytesN (l ++ m) = bytesN l ++ bytesN m
  | [], m => rfl
  | x :: t, m => by simp only [List.cons_append, bytesN, bytesN_app t m, List.append_assoc]
theorem bytesN_snoc {l : List Nat} {k : Nat} (h : k < l.length) : bytesN (l.take (k + 1)) = bytesN (l.take k) ++ beW (l.getD k 0) := by
  rw [List.take_succ_eq_append_getElem h, bytesN_app]
  simp [bytesN, List.getD_eq_getElem?_getD, h]
theorem bytesN_byte : ∀ (l : List Nat), W32 l → ∀ x ∈ bytesN l, 0 ≤ x ∧ x < 256
  | [], _, x, h => by simp [bytesN] at h
  | y :: t, hw, x, h => by
    have hy := hw y (by simp)
    simp only [bytesN, List.mem_append, beW, List.mem_cons, List.not_mem_nil, or_false] at h
    rcases h with (rfl | rfl | rfl | rfl) | h
    · omega
    · omega
    · omega
    · omega
    · exact bytesN_byte t (fun z hz => hw z (by simp [hz])) x h
set_option maxHeartbeats 4000000 in
theorem bytes_any (A : Option Addr) (c : Nat) (l : List Nat) (w : World) (hr : RdI w .u32 A (l.map (fun n : Nat => (n : Int)))) (hl : l.length ≤ 1000000) (hb : W32 l) :
    Calls Tryz.prog 215 #[.slice A l.length c] w fun e w' => ∃ v, e = .returned v ∧ w'.ownsRow w.heap.size 5 1 v (bytesN l).length ((bytesN l).map (.int .u8)) ∧ Below w.heap.size w w' := by
  obtain ⟨i0, hi, hz0, hz1, hz2⟩ := info_parts infoB8
  have e4 : wrap64 (4 * (l.length : Int)) = 4 * (l.length : Int) := by unfold wrap64; omega
  go_enter Tryz.func215, Tryz.ntmps215
  go_wp2_with (first
    | (at_make; refine wpList_make_own _ rfl _ _ 30 rfl w.heap.size 5 i0 (.int .u8 0) 1 Tryz.underlying30 hi hz0 hz1 .i64 .i64 _ (4 * l.length) rfl rfl ?_ ?_ ?_ (Nat.le_refl _) ?_; (focus (simp)); (focus (rw [hz2]; omega)); (focus (unfold maxLen; omega)); intro w1 hown hg))
  go_loopw [3, 12] (fun v i wr => ∃ k : Nat, k ≤ l.length ∧ i = .int .i64 k ∧ wr.ownsRow w.heap.size 5 1 v (bytesN (l.take k)).length ((bytesN (l.take k)).map (.int .u8)) ∧ Below w.heap.size w wr) (fun _ i _ => l.length - (intOf i).toNat)
  case atStart => exact ⟨0, Nat.zero_le _, rfl, hown, bG (bR _) hg (fun k h => by cases h)⟩
  case round =>
    obtain ⟨k, hk, rfl, ho, hbl⟩ := hrel
    by_cases hlt : k < l.length
    · obtain ⟨ad, rfl, q0⟩ := (hr.below hbl).at_ (j := k) (by simpa using hlt)
      rw [show (l.map (fun n : Nat => (n : Int))).getD k 0 = ((l.getD k 0 : Nat) : Int) by simp [List.getD_eq_getElem?_getD, hlt]] at q0
      have hx := hb.at_ k
      have HSN := Lib.hid (bytesN_snoc hlt)
      have hlen : (bytesN (l.take k)).length ≤ 4000000 := by rw [bytesN_len, List.length_take]; omega
      generalize l.getD k 0 = x at *
      obtain ⟨D, hD⟩ : ∃ D, bytesN (l.take k) = D := ⟨_, rfl⟩
      rw [hD] at ho hlen
      have HD := Lib.hid hD
      obtain ⟨b0, hb0⟩ : ∃ y, (x : Int) / 16777216 = y := ⟨_, rfl⟩
      obtain ⟨b1, hb1⟩ : ∃ y, (x : Int) / 65536 % 256 = y := ⟨_, rfl⟩
      obtain ⟨b2, hb2⟩ : ∃ y, (x : Int) / 256 % 256 = y := ⟨_, rfl⟩
      obtain ⟨b3, hb3⟩ : ∃ y, (x : Int) % 256 = y := ⟨_, rfl⟩
      have HBE : Hid (beW x = [b0, b1, b2, b3]) := Lib.hid (by unfold beW; rw [hb0, hb1, hb2, hb3])
      have W0 : IntKind.u8.wrap ((x : Int) / 16777216) = b0 := by rw [IntKind.wrap_u8]; omega
      have W1 : IntKind.u8.wrap ((x : Int) / 65536) = b1 := by rw [IntKind.wrap_u8]; omega
      have W2 : IntKind.u8.wrap ((x : Int) / 256) = b2 := by rw [IntKind.wrap_u8]; omega
      have W3 : IntKind.u8.wrap (x : Int) = b3 := by rw [IntKind.wrap_u8]; omega
      have hown3 := own_ge ho
      have HOG := Lib.hid hown3
      have HR := Lib.hid (show ∀ (W : World) (t : TypeId), RdI (W.alloc (.cells #[.int .u8 b0, .int .u8 b1, .int .u8 b2, .int .u8 b3] t)) .u8 (some ⟨W.heap.size, 0, none⟩) [b0, b1, b2, b3] from fun W t => RdI.lit W .u8 [b0, b1, b2, b3] t)
      clear hD hb0 hb1 hb2 hb3 hown3 hown hg
      go_wp2_with (at_builtin; refine wpL_app (k := .u8) rfl _ _ 30 rfl w.heap.size 5 i0 (.int .u8 0) 1 Tryz.underlying30 hi hz0 hz1 hz2 rfl _ (D) rfl (ho.alloc _) _ _ ([b0, b1, b2, b3]) rfl (HR.out _ _) ?_ ?_ ?_ ?_; (focus (exact maxLen_ge (by simp; omega))); (focus ((simp; omega))); (focus (have := hbl.size; simp; omega)); intro v2 w2 ho2 hg2 _)
      have h2 := bG (bA hbl _) hg2 HOG.out
      have HO2 := Lib.hid ho2
      clear hg2 ho2
      go_wp2
      go_roundw
      case rel => exact ⟨k + 1, by omega, by go_num, by rw [HSN.out, HD.out, HBE.out]; exact HO2.out, h2⟩
      case measure => simp [intOf]; omega
    · have ho' := ho
      rw [List.take_of_length_le (by omega)] at ho'
      have HO := Lib.hid ho'
      clear ho ho' hown hg
      go_wp2
      go_ret
      exact ⟨_, rfl, HO.out, hbl⟩
end Go.Proofs.YtnbghgenaolfgaaGreat

namespace Go.Proofs.YtnbghgenaolfgaaGreat
open Go.RowKit
set_option linter.unusedVariables false
set_option maxRecDepth 100000
set_option linter.unusedSimpArgs false

theorem zeros_list (z : Value) (hz : z.cells = #[z]) (k : Nat) : (Builtin.zeroCells z.cells k) = (List.replicate k z).toArray := by
  apply Array.ext'
  rw [hz]
  apply List.ext_getElem
  · simp [Builtin.zeroCells]
  · intro i h1 h2
    simp [Builtin.zeroCells, Nat.mod_one]
theorem run_append_zeros {P : Program} (w : World) (base : Nat) (t tn ty e : TypeId) (i : TypeInfo) (z : Value) (kq kn : IntKind) (bytes : Nat) (ht : P.underlying t = some (.slice e)) (htn : P.underlying tn = some (.int kn)) (hi : P.info? e = some i) (hz : i.zero = some z)
    (hsize : i.size = 1) (hby : i.bytes = bytes) (hzs : z.cells = #[z]) (h1 : z.oneCell' = true)
    (v : Value) (n : Nat) (xs : List Value) (hown : w.ownsRow base e 1 v n xs) (k : Nat)
    (h63 : n + k ≤ maxLen) (hbytes : (n + k) * bytes ≤ 140737488355328) (hbase : base ≤ w.heap.size) :
    ∃ v' w', (Builtin.append_ #[t, tn] ty #[v, .int kq k]).run P w = .ok v' w' ∧ w'.ownsRow base e 1 v' (n + k) (xs ++ List.replicate k z) ∧ w.grownBy w' v.ownBlock ∧ (v'.ownBlock = v.ownBlock ∨ v'.ownBlock = some w.heap.size) := by
  subst hby
  have hsmall : n + k ≤ 9223372036854775807 := by simp only [maxLen] at h63; omega
  have hx : xs.length = n := by simpa using hown.1
  by_cases hk : 0 < k
  rotate_left
  · obtain rfl : k = 0 := by omega
    have hw0 : IntKind.i64.wrap 0 = 0 := by decide
    refine ⟨v, w, ?_, by simpa using hown, World.grownBy.refl w _, .inl rfl⟩
    rcases hown.2 with ⟨rfl, rfl⟩ | ⟨g, cap, cur, rfl, _, _, hnc, _⟩
    · simp [Builtin.append_, run_underlying ht, run_underlying htn, sizeOf, typeInfo, hi, asInt, asIntOf, hw0]
    · simp [Builtin.append_, run_underlying ht, run_underlying htn, sizeOf, typeInfo, hi, asInt, asIntOf, hw0, hnc, storeCells]
  have hgrow : ∀ (bs : Option Addr) (cap : Nat) (b : Option Nat), v = .slice bs n cap → (Builtin.firstCells i.size n (.slice bs n cap)).run P w.drew = .ok xs.toArray w.drew → ¬ n + k ≤ cap → (n + k) * i.bytes ≤ 140737488355328 →
      ∃ v' w', (Builtin.append_ #[t, tn] ty #[v, .int kq k]).run P w = .ok v' w' ∧ w'.ownsRow base e 1 v' (n + k) (xs ++ List.replicate k z) ∧ w.grownBy w' b ∧ (v'.ownBlock = b ∨ v'.ownBlock = some w.heap.size) := by
    intro bs cap b hv hold hn hb
    have hm : k * i.bytes ≤ (n + k) * i.bytes := Nat.mul_le_mul_right _ (by omega)
    have hr := Lib.run_append_grow_zeros (P := P) w t tn ty e i z kq kn ht htn hi hz bs n cap xs hold k hk (by omega) (by omega) (by omega) (by omega) (growslice_fits (by omega) hb)
    rw [← hv] at hr
    have hge := grownCap_ge w (n + k) cap e
    have hcm : grownCap w (n + k) cap e ≤ maxLen := grownCap_le_maxLen w (n + k) cap e h63
    refine ⟨_, _, hr, ⟨by simp [hx], .inr ⟨w.heap.size, _, _, rfl, hbase, heap_alloc_new w.drew _, hge, hcm, ?_, ?_⟩⟩, ⟨rfl, rfl, rfl, by simp, fun j hj _ => _root_.Go.heap_alloc_old w.drew _ hj⟩, .inr rfl⟩
    · rw [zeros_list z hzs, zeros_list z hzs]
      simp [hx]; omega
    · rw [zeros_list z hzs, zeros_list z hzs]
      simp only [Array.toList_append]
      rw [show (n + k) * 1 = (xs ++ List.replicate k z).length by simp [hx]]
      exact List.take_left
  rcases hown.2 with ⟨rfl, rfl⟩ | ⟨g, cap, cur, rfl, hbg, hg, hnc, hcm, hcs, htake⟩
  · obtain rfl : xs = [] := List.eq_nil_of_length_eq_zero hx
    exact hgrow none 0 _ rfl (by simp [Builtin.firstCells, loadCells, loadCellsFrom]) (by omega) hbytes
  · by_cases hroom : n + k ≤ cap
    · have hw : IntKind.i64.wrap (k : Int) = k := by rw [IntKind.wrap_i64]; omega
      have hneg : ¬ ((k : Int) < 0) := by omega
      have h48i : ¬ (281474976710656 < (k : Int) * (i.bytes : Int)) := by
        rw [← Int.natCast_mul]
        have hm : k * i.bytes ≤ (n + k) * i.bytes := Nat.mul_le_mul_right _ (by omega)
        omega
      have hns : ¬ (k * i.size = 0) := Nat.mul_ne_zero (by omega) (by omega)
      have hlen : (List.replicate k z).length = k := by simp
      have hst := run_storeCells_at P g (n * 1) e (List.replicate k z) 0 cur w hg (by simp; omega) (fun u hu => by rw [List.eq_of_mem_replicate hu]; exact h1)
      simp only [Nat.add_zero, Nat.mul_one] at hst
      have hr : (Builtin.append_ #[t, tn] ty #[.slice (some ⟨g, 0, none⟩) n cap, .int kq k]).run P w = .ok (.slice (some ⟨g, 0, none⟩) (n + k) cap) (w.setRow g (cur.toList.take n ++ List.replicate k z ++ cur.toList.drop (n + k)).toArray) := by
        simp [Builtin.append_, run_underlying ht, run_underlying htn, sizeOf, typeInfo, zeroValue, hi, hz, asInt, asIntOf, hw, hneg, hns, h48i, hroom, hsize, show ¬ k = 0 by omega, zeros_list z hzs, Addr.add_lit, hst, Question.forced]
      refine ⟨_, _, hr, ⟨by simp [hx], .inr ⟨g, cap, _, rfl, hbg, setRow_heap w g cur _ e _ hg, hroom, hcm, ?_, ?_⟩⟩, ⟨rfl, rfl, rfl, by simp, fun j _ hj => setRow_other w g j _ (fun e => hj (by simp [Value.ownBlock, e]))⟩, Or.inl rfl⟩
      · simp only [List.size_toArray, List.length_append, List.length_take, List.length_drop, Array.length_toList, List.length_replicate]
        omega
      · rw [Nat.mul_one] at htake
        rw [htake]
        rw [show (n + k) * 1 = (xs ++ List.replicate k z).length by simp [hx]]
        exact List.take_left
    · have holds : ∀ j u, xs[j]? = some u → w.cell? ((⟨g, 0, none⟩ : Addr).add j) = some u := hown.cells (g := g) rfl
      refine hgrow (some ⟨g, 0, none⟩) cap (some g) rfl ?_ hroom hbytes
      have := _root_.Go.run_firstCells_some (P := P) w.drew i.size n ⟨g, 0, none⟩ n cap xs (by rw [hsize, hx, Nat.mul_one]) (fun j u h => by exact holds j u h)
      exact this

/-- append(v, make([]T, k)...), v a row of the call's own. -/
theorem wpL_appz {P : Program} {w : World} {ops : Array Oper} {rest : List Oper} {o : Oper} {a : Act} {Q : Exit → Act → World → Prop} {k : IntKind} (hgd : o.guard = none) (s x : Operand) (t tn : TypeId)
    (ho : o.op = .call { callee := .builtin .append, args := #[s, x], argTypes := #[t, tn] })
    (base : Nat) (e : TypeId) (i : TypeInfo) (bytes : Nat) (kn : IntKind) (ht : P.underlying t = some (.slice e)) (htn : P.underlying tn = some (.int kn)) (hi : P.info? e = some i) (hz : i.zero = some (.int k 0))
    (hsize : i.size = 1) (hby : i.bytes = bytes)
    (v : Value) (xs : List Int) (hs : a.eval s = v) (hown : w.ownsRow base e 1 v xs.length (xs.map (.int k)))
    (m : Nat) (kq : IntKind) (M : Int) (hx : a.eval x = .int kq M) (hM : M = (m : Int))
    (h63 : xs.length + m ≤ maxLen) (hbytes : (xs.length + m) * bytes ≤ 140737488355328) (hbase : base ≤ w.heap.size)
    (h : ∀ v' w', w'.ownsRow base e 1 v' (xs ++ List.replicate m 0).length ((xs ++ List.replicate m 0).map (.int k)) → w.grownBy w' v.ownBlock → (v'.ownBlock = v.ownBlock ∨ v'.ownBlock = some w.heap.size) → wpList P ops Q rest (a.put o.dst v') w') :
    wpList P ops Q (o :: rest) a w := by
  subst hM
  refine wpList_plain hgd fun K hK => ?_
  obtain ⟨v', w', hr, h2, h3, h4⟩ := run_append_zeros (P := P) w base t tn o.type e i (.int k 0) kq kn bytes ht htn hi hz hsize hby rfl rfl v xs.length _ hown m h63 hbytes hbase
  unfold Oper.wp execOp
  simp only [ho, resolve, invoke, builtin, Sem.run_bind, Sem.run_pure, Result.andThen_ok, List.map_toArray, List.map_cons, List.map_nil, hs, hx, hr]
  exact hK _ _ (h v' w' (by simpa using h2) h3 h4)
end Go.Proofs.YtnbghgenaolfgaaGreat

namespace Go.Proofs.YtnbghgenaolfgaaGreat
open Go.RowKit
set_option linter.unusedVariables false
set_option maxRecDepth 100000
set_option linter.unusedSimpArgs false

def zerosN (n : Nat) : Nat := (119 - n % 64) % 64
def padN (l : List Int) : List Int := l ++ [128] ++ List.replicate (zerosN l.length) 0 ++ bytesN [8 * l.length / 4294967296 % 4294967296, 8 * l.length % 4294967296]
theorem padN_len (l : List Int) : (padN l).length % 64 = 0 ∧ (padN l).length ≤ l.length + 72 := by
  unfold padN zerosN
  simp only [List.length_append, List.length_cons, List.length_nil, List.length_replicate, bytesN_len]
  omega
theorem padN_byte {l : List Int} (h : ∀ x ∈ l, 0 ≤ x ∧ x < 256) : ∀ x ∈ padN l, 0 ≤ x ∧ x < 256 := by
  intro x hx
  unfold padN at hx
  simp only [List.mem_append] at hx
  rcases hx with ((hx | hx) | hx) | hx
  · exact h x hx
  · simp at hx; subst hx; omega
  · rw [List.eq_of_mem_replicate hx]; omega
  · refine bytesN_byte _ ?_ x hx
    intro y hy
    simp at hy
    omega

theorem clone_any (A : Option Addr) (c : Nat) (l : List Int) (w : World) (hr : RdI w .u8 A l) (hl : l.length ≤ 140737488355000) :
    Calls Tryz.prog 238 #[.slice A l.length c] w fun e w' => ∃ v, e = .returned v ∧ w'.ownsRow w.heap.size 5 1 v l.length (l.map (.int .u8)) ∧ Below w.heap.size w w' := by
  obtain ⟨i0, hi, hz0, hz1, hz2⟩ := info_parts infoB8
  have hn := fun W : World => Lib.run_eql_slice_nil (P := Tryz.prog) W 30 5 A l.length c 0 0 Tryz.underlying30
  cases A with
  | none =>
    have hz : l = [] := by
      rcases hr with h | ⟨ad, h, _⟩
      · exact h
      · cases h
    subst hz
    have hn2 := fun W : World => Lib.run_eql_slice_nil (P := Tryz.prog) W 30 5 none 0 c 0 0 Tryz.underlying30
    simp only [List.length_nil]
    go_enter Tryz.func238, Tryz.ntmps238
    go_wp2
    go_ret
    exact ⟨_, rfl, World.ownsRow_nil _ _ _ _, bR _⟩
  | some ad =>
    go_enter Tryz.func238, Tryz.ntmps238
    go_wp2_with (at_builtin; refine wpL_app (k := .u8) rfl _ _ 30 rfl w.heap.size 5 i0 (.int .u8 0) 1 Tryz.underlying30 hi hz0 hz1 hz2 rfl _ ([]) rfl (own_lit0 _ _ _) _ _ (l) rfl (hr.below (bel1 _ _)) ?_ ?_ ?_ ?_; (focus (unfold maxLen; simp; omega)); (focus ((simp; omega))); (focus (first | (simp; done) | (simp; omega))); intro v2 w2 ho2 hg2 _)
    have h2 := bG (bel1 w _) hg2 (fun k h => by have := ob_slice h; omega)
    have HO2 := Lib.hid ho2
    clear hg2 ho2
    go_wp2
    go_ret
    exact ⟨_, rfl, by have h := HO2.out; simpa using h, h2⟩

set_option maxHeartbeats 4000000 in
theorem pad_any (A : Option Addr) (c : Nat) (l : List Int) (w : World) (hr : RdI w .u8 A l) (hl : l.length ≤ 70368744177664) :
    Calls Tryz.prog 212 #[.slice A l.length c] w fun e w' => ∃ v, e = .returned v ∧ w'.ownsRow w.heap.size 5 1 v (padN l).length ((padN l).map (.int .u8)) ∧ Below w.heap.size w w' := by
  obtain ⟨i0, hi, hz0, hz1, hz2⟩ := info_parts infoB8
  have d1 : (l.length : Int) % 64 = ((l.length % 64 : Nat) : Int) := by simp
  obtain ⟨r, hr0⟩ : ∃ r, l.length % 64 = r := ⟨_, rfl⟩
  obtain ⟨z, hz⟩ : ∃ z, (119 - r) % 64 = z := ⟨_, rfl⟩
  rw [hr0] at d1
  have hrl : r < 64 := by omega
  have hzl : z < 64 := by omega
  have d2 : (119 - (r : Int)) % 64 = (z : Int) := by omega
  have d3 : IntKind.u64.wrap (l.length : Int) = (l.length : Int) := by rw [IntKind.wrap_u64]; omega
  have d4 : IntKind.u64.wrap ((l.length : Int) * 8) = 8 * (l.length : Int) := by rw [IntKind.wrap_u64]; omega
  have HZ : Hid (zerosN l.length = z) := Lib.hid (by unfold zerosN; rw [hr0, hz])
  clear hz hr0
  go_enter Tryz.func212, Tryz.ntmps212
  go_wp2_with fail
  refine (clone_any A c l w hr (by omega)).mono ?_
  rintro e w1 ⟨v1, rfl, ho1, hb1⟩
  have hz1' := hb1.size
  have hG1 := own_ge ho1
  have HG1 := Lib.hid hG1
  have hb1' := hb1
  obtain ⟨p1, hp1⟩ : ∃ p, 8 * l.length / 4294967296 % 4294967296 = p := ⟨_, rfl⟩
  obtain ⟨p2, hp2⟩ : ∃ p, 8 * l.length % 4294967296 = p := ⟨_, rfl⟩
  have d5 : IntKind.u32.wrap (8 * (l.length : Int) / 4294967296) = (p1 : Int) := by rw [IntKind.wrap_u32]; omega
  have d6 : IntKind.u32.wrap (8 * (l.length : Int)) = (p2 : Int) := by rw [IntKind.wrap_u32]; omega
  have HP : Hid (padN l = l ++ [128] ++ List.replicate z 0 ++ bytesN [p1, p2]) := Lib.hid (by unfold padN; rw [HZ.out, hp1, hp2])
  have hpw : W32 [p1, p2] := by intro x hx; simp at hx; rcases hx with rfl | rfl <;> omega
  clear hp1 hp2 hG1
  go_wp2_with (first | (at_builtin; refine wpL_app (k := .u8) rfl _ _ 30 rfl w.heap.size 5 i0 (.int .u8 0) 1 Tryz.underlying30 hi hz0 hz1 hz2 rfl _ (l) rfl (ho1.alloc _) _ _ ([128]) rfl (RdI.lit1 _ _ _ _) ?_ ?_ ?_ ?_; (focus (unfold maxLen; simp; omega)); (focus ((simp; omega))); (focus (first | (simp; done) | (simp; omega))); intro v2 w2 ho2 hg2 _) | (at_builtin; refine wpL_appz (k := .u8) rfl _ _ 30 3 rfl w.heap.size 5 i0 1 .i64 Tryz.underlying30 Tryz.underlying3 hi hz0 hz1 hz2 v2 (l ++ [128]) rfl ho2 z _ _ rfl d2 ?_ ?_ ?_ ?_; (focus (unfold maxLen; simp; omega)); (focus (simp; omega)); (focus (have := hg2.size; simp at this; omega)); intro v3 w3 ho3 hg3 hv3))
  have h2 := bG (bA hb1 _) hg2 HG1.out
  have h3 := bG h2 hg3 (own_ge ho2)
  have hz3 := h3.size
  have HO3 := Lib.hid ho3
  have HG3 := Lib.hid (own_ge ho3)
  clear hg2 hg3 ho2 ho3 hb1 hb1' ho1 h2 hv3
  refine (bytes_any (some ⟨w3.heap.size, 0, none⟩) 2 [p1, p2] _ ?_ (by simp) hpw).mono ?_
  · exact RdI.lit w3 .u32 [(p1 : Int), (p2 : Int)] _
  rintro e w4 ⟨v4, rfl, ho4, hb4⟩
  have hl8 : (bytesN [p1, p2]).length = 8 := bytesN_len [p1, p2]
  obtain ⟨BY, hBY⟩ : ∃ BY, bytesN [p1, p2] = BY := ⟨_, rfl⟩
  obtain ⟨D3, hD3⟩ : ∃ D, l ++ [128] ++ List.replicate z 0 = D := ⟨_, rfl⟩
  have hD3l : D3.length ≤ l.length + 65 := by rw [← hD3]; simp; omega
  have hHO3 := HO3.out
  rw [hD3] at hHO3
  rw [hBY] at ho4 hl8
  have HPB : Hid (padN l = D3 ++ BY) := Lib.hid (by rw [HP.out, hD3, hBY])
  obtain ⟨A4, c4, rfl, _, _⟩ := own_slice ho4
  have hr4 := RdI.of_own ho4
  have hb4' := bT (bel1 _ _) hb4
  have ho3' := own_below hHO3 hb4'
  have h4 := bT h3 hb4'
  have hz4 := h4.size
  have HL8 := Lib.hid hl8
  clear hb4 hb4' ho4 hl8 h3 hBY hD3 hHO3
  go_wp2_with (at_builtin; refine wpL_app (k := .u8) rfl _ _ 30 rfl w.heap.size 5 i0 (.int .u8 0) 1 Tryz.underlying30 hi hz0 hz1 hz2 rfl _ (D3) rfl (ho3') _ _ (BY) rfl (hr4) ?_ ?_ ?_ ?_; (focus (unfold maxLen; have := HL8.out; omega)); (focus ((have := HL8.out; omega))); (focus (omega)); intro v5 w5 ho5 hg5 _)
  have h5 := bG h4 hg5 HG3.out
  have HO5 := Lib.hid ho5
  clear hg5 ho5 ho3'
  go_wp2
  go_ret
  exact ⟨_, rfl, by rw [HPB.out]; exact HO5.out, h5⟩
end Go.Proofs.YtnbghgenaolfgaaGreat

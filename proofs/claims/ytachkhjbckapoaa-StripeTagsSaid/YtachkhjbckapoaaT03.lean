/- Layer 2: SHA-256's block, by the program. Condition: the rows are of 8 and 16 words. No condition. -/
import Derived.Test.YtachkhjbckapoaaT02
namespace Go.Proofs.Ytachkhjbckapoaa
open Go.RowKit
set_option linter.unusedVariables false
set_option maxRecDepth 100000
set_option linter.unusedSimpArgs false

theorem rnds_len : ∀ {ks ws v : List Nat}, v.length = 8 → (rndsN ks ws v).length = 8
  | [], _, _, h => h
  | _ :: _, [], _, h => h
  | k :: ks, w :: ws, v, _ => rnds_len (ks := ks) (ws := ws) (v := rndN v k w) rfl
theorem rnds_W32 : ∀ {ks ws v : List Nat}, W32 v → W32 (rndsN ks ws v)
  | [], _, _, h => h
  | _ :: _, [], _, h => h
  | k :: ks, w :: ws, v, h => rnds_W32 (ks := ks) (ws := ws) (rnd_W32 h k w)
theorem const_at {kt : Nat} (t : Nat) (w : World) (ht : t < 64) (hk : kN.getD t 0 = kt) : Calls Try.prog 150 #[.int .i64 (t : Int)] w fun e w' => e = .returned (.int .u32 (kt : Int)) ∧ Below w.heap.size w w' := by
  subst hk
  exact const_any t w ht
theorem k_len : kN.length = 64 := by decide
theorem rnds_snoc {t : Nat} : ∀ {ks ws v : List Nat}, t < ks.length → t < ws.length → rndsN (ks.take (t + 1)) (ws.take (t + 1)) v = rndN (rndsN (ks.take t) (ws.take t) v) (ks.getD t 0) (ws.getD t 0) := by
  induction t with
  | zero =>
    intro ks ws v hk hw
    cases ks with
    | nil => simp at hk
    | cons k ks => cases ws with
      | nil => simp at hw
      | cons w ws => simp [rndsN]
  | succ t ih =>
    intro ks ws v hk hw
    cases ks with
    | nil => simp at hk
    | cons k ks => cases ws with
      | nil => simp at hw
      | cons w ws =>
        have := ih (ks := ks) (ws := ws) (v := rndN v k w) (by simpa using hk) (by simpa using hw)
        simpa [rndsN] using this
theorem set8 {V : List Nat} (h : V.length = 8) (a b c d e f g i : Nat) : (((((((V.set 0 a).set 1 b).set 2 c).set 3 d).set 4 e).set 5 f).set 6 g).set 7 i = [a, b, c, d, e, f, g, i] := by
  rcases V with _ | ⟨_, _ | ⟨_, _ | ⟨_, _ | ⟨_, _ | ⟨_, _ | ⟨_, _ | ⟨_, _ | ⟨_, _ | ⟨_, _⟩⟩⟩⟩⟩⟩⟩⟩⟩ <;> simp at h
  rfl
theorem addJ {V h : List Nat} {k : Nat} (hV : V.length = 8) (hh : h.length = 8) (hk : k < 8) : (addN (V.take k) (h.take k) ++ V.drop k).set k ((V.getD k 0 + h.getD k 0) % 4294967296) = addN (V.take (k + 1)) (h.take (k + 1)) ++ V.drop (k + 1) := by
  unfold addN
  have e1 : V.take (k + 1) = V.take k ++ [V.getD k 0] := by rw [List.take_succ_eq_append_getElem (by omega)]; simp [List.getD_eq_getElem?_getD, show k < V.length by omega]
  have e2 : h.take (k + 1) = h.take k ++ [h.getD k 0] := by rw [List.take_succ_eq_append_getElem (by omega)]; simp [List.getD_eq_getElem?_getD, show k < h.length by omega]
  have e3 : V.drop k = V.getD k 0 :: V.drop (k + 1) := by rw [List.drop_eq_getElem_cons (by omega)]; simp [List.getD_eq_getElem?_getD, show k < V.length by omega]
  have hl : (List.zipWith (fun x y => (x + y) % 4294967296) (V.take k) (h.take k)).length = k := by simp; omega
  rw [e1, e2, e3, List.set_append, if_neg (by omega), hl, Nat.sub_self, List.set_cons_zero, List.zipWith_append (by simp; omega)]
  simp
theorem addJ_at {V h : List Nat} {k : Nat} (hV : V.length = 8) (hh : h.length = 8) (hk : k < 8) : (addN (V.take k) (h.take k) ++ V.drop k).getD k 0 = V.getD k 0 := by
  unfold addN
  have hl : (List.zipWith (fun x y => (x + y) % 4294967296) (V.take k) (h.take k)).length = k := by simp; omega
  rw [List.getD_eq_getElem?_getD, List.getElem?_append_right (by omega), hl, Nat.sub_self, List.getElem?_drop, Nat.add_zero, List.getD_eq_getElem?_getD]
theorem addJ_len {V h : List Nat} {k : Nat} (hV : V.length = 8) (hh : h.length = 8) (hk : k ≤ 8) : (addN (V.take k) (h.take k) ++ V.drop k).length = 8 := by
  unfold addN; simp; omega
theorem info8 : (Try.prog.info? 147).map (·.size) = some 8 := by kernel_rfl
theorem info16 : (Try.prog.info? 152).map (·.size) = some 16 := by kernel_rfl
theorem sched_pad {x : List Nat} {k n : Nat} (h : W32 x) : W32 (schedN k x ++ List.replicate n 0) := by
  intro y hy
  rcases List.mem_append.1 hy with hy | hy
  · exact sched_W32 k x h y hy
  · rw [List.eq_of_mem_replicate hy]; decide
theorem sched_next {x : List Nat} {k a b c d : Nat} (hx : x.length = 16) (hk : k < 48) (hc : (schedN k x ++ List.replicate (48 - k) 0).getD k 0 = c) (ha : (schedN k x ++ List.replicate (48 - k) 0).getD (k + 1) 0 = a)
    (hd : (schedN k x ++ List.replicate (48 - k) 0).getD (k + 9) 0 = d) (hb : (schedN k x ++ List.replicate (48 - k) 0).getD (k + 14) 0 = b) :
    (((c + sg0 a) % 4294967296 + d) % 4294967296 + sg1 b) % 4294967296 = nextW (schedN k x) := by
  have hl : (schedN k x).length = 16 + k := by rw [sched_len, hx]
  have e : ∀ j, j < 16 + k → (schedN k x ++ List.replicate (48 - k) 0).getD j 0 = (schedN k x).getD j 0 := by
    intro j hj
    rw [List.getD_eq_getElem?_getD, List.getD_eq_getElem?_getD, List.getElem?_append_left (by omega)]
  unfold nextW
  rw [hl, show 16 + k - 16 = k by omega, show 16 + k - 15 = k + 1 by omega, show 16 + k - 7 = k + 9 by omega, show 16 + k - 2 = k + 14 by omega]
  rw [← e k (by omega), ← e (k + 1) (by omega), ← e (k + 9) (by omega), ← e (k + 14) (by omega), hc, ha, hd, hb]

theorem sched_set {x : List Nat} {k : Nat} (hx : x.length = 16) (hk : k < 48) : (schedN k x ++ List.replicate (48 - k) 0).set (k + 16) (nextW (schedN k x)) = schedN (k + 1) x ++ List.replicate (48 - (k + 1)) 0 := by
  have hl : (schedN k x).length = 16 + k := by rw [sched_len, hx]
  obtain ⟨m, hm⟩ : ∃ m, 48 - k = m + 1 := ⟨47 - k, by omega⟩
  rw [hm, show 48 - (k + 1) = m by omega, List.replicate_succ, List.set_append, if_neg (by omega), show k + 16 - (schedN k x).length = 0 by omega, List.set_cons_zero, sched_snoc, List.append_assoc]
  rfl

set_option maxHeartbeats 4000000 in
theorem block_any (h x : List Nat) (w : World) (hh : h.length = 8) (hx : x.length = 16) (wh : W32 h) (wx : W32 x) :
    Calls Try.prog 128 #[.agg (wv h).toArray, .agg (wv x).toArray] w fun e w' => e = .returned (.agg (wv (blockN h x)).toArray) ∧ Below w.heap.size w w' := by
  have HH := Lib.hid hh
  have HX := Lib.hid hx
  clear hh hx
  go_enter Try.func128, Try.ntmps128
  go_wp2_with fail
  obtain ⟨w0, hw0, a0, a1, a2, a3, az, hb0⟩ := new4 w (.cells (wv h).toArray 147) (.cells (wv x).toArray 152) (.cells (wv (List.replicate 8 0)).toArray 147) (.cells (wv (List.replicate 64 0)).toArray 167)
  generalize hW0 : World.alloc _ _ = w00
  obtain rfl : w0 = w00 := by rw [← hw0, ← hW0]; kernel_rfl
  clear hW0 hw0
  go_still_tail 2, (by kernel_rfl)
  change wpList _ _ _ _ _ (World.drew w0)
  have hsp : splice (wv (List.replicate 64 0)) 0 (wv x) = wv (x ++ List.replicate 48 0) := by
    unfold splice
    rw [List.take_zero, List.nil_append, Nat.zero_add, wv_len, HX.out]
    simp [wv]
  go_wp2_with (refine wpList_copy_splice rfl (.tmp 22) (.tmp 23) 148 148 rfl 146 Try.underlying148 (by kernel_rfl) _ _ 64 64 16 16 rfl rfl (w.heap.size + 1 + 1 + 1) 0 (wv (List.replicate 64 0)) 167 a3 (wv x) (by rw [wv_len, HX.out]; rfl) (fun _ => ⟨rfl, _, rfl, fun j v hv => by have e : (⟨w.heap.size + 1, 0, none⟩ : Addr).add j = ⟨w.heap.size + 1, j, none⟩ := (by unfold Addr.add; by_cases h : j = 0 <;> simp [h]); rw [e, cell_of_row _ _ j _ _ _ (show w0.drew.heap[w.heap.size + 1]? = _ from a1)]; simpa using hv⟩) (by rw [wv_len, wv_len, HX.out]; decide) (wv_one _) (w.heap.size + 1 + 1 + 1) w0 (Below.refl _ _).drew (Nat.le_refl _) ?_; intro w1 hg1 hb1)
  have hg1' := hg1.out
  rw [hsp] at hg1'
  have HG1 := Lib.hid hg1'
  clear hg1 hg1' hsp
  go_loopw [6] (fun i wr => ∃ k : Nat, k ≤ 48 ∧ i = .int .i64 ((k : Int) + 16) ∧ Hid (wr.heap[w.heap.size + 1 + 1 + 1]? = some (.cells (wv (schedN k x ++ List.replicate (48 - k) 0)).toArray 167 (0, 0))) ∧ Below (w.heap.size + 1 + 1 + 1) w0 wr) (fun i _ => 64 - (intOf i).toNat)
  case atStart => exact ⟨0, Nat.zero_le _, rfl, HG1, hb1⟩
  case round =>
    obtain ⟨k, hk, rfl, hg, hb⟩ := hrel
    by_cases hlt : k < 48
    · have hlen : (schedN k x ++ List.replicate (48 - k) 0).length = 64 := by rw [List.length_append, sched_len, HX.out]; simp; omega
      have HL := Lib.hid hlen
      clear hlen
      have c15 := row_wv (j := k + 1) hg.out (by rw [HL.out]; omega)
      have c2 := row_wv (j := k + 14) hg.out (by rw [HL.out]; omega)
      have c16 := row_wv (j := k) hg.out (by rw [HL.out]; omega)
      have c7 := row_wv (j := k + 9) hg.out (by rw [HL.out]; omega)
      have c0 := row_wv (j := k + 16) hg.out (by rw [HL.out]; omega)
      have fz := row_free hg.out
      obtain ⟨a, ha⟩ : ∃ a, (schedN k x ++ List.replicate (48 - k) 0).getD (k + 1) 0 = a := ⟨_, rfl⟩
      obtain ⟨b, hb'⟩ : ∃ b, (schedN k x ++ List.replicate (48 - k) 0).getD (k + 14) 0 = b := ⟨_, rfl⟩
      obtain ⟨c, hc⟩ : ∃ c, (schedN k x ++ List.replicate (48 - k) 0).getD k 0 = c := ⟨_, rfl⟩
      obtain ⟨d, hd⟩ : ∃ d, (schedN k x ++ List.replicate (48 - k) 0).getD (k + 9) 0 = d := ⟨_, rfl⟩
      rw [ha] at c15
      rw [hb'] at c2
      rw [hc] at c16
      rw [hd] at c7
      have HA := Lib.hid ha
      have HB := Lib.hid hb'
      have HC := Lib.hid hc
      have HD := Lib.hid hd
      clear ha hb' hc hd
      have wa : a < 4294967296 := by rw [← HA.out]; exact W32.at_ (sched_pad wx) _
      have wb : b < 4294967296 := by rw [← HB.out]; exact W32.at_ (sched_pad wx) _
      have hn : (((c + sg0 a) % 4294967296 + d) % 4294967296 + sg1 b) % 4294967296 = nextW (schedN k x) := sched_next HX.out hlt HC.out HA.out HD.out HB.out
      have HN := Lib.hid hn
      clear hn
      obtain ⟨y1, hy1⟩ : ∃ y, y = (c + sg0 a) % 4294967296 := ⟨_, rfl⟩
      obtain ⟨y2, hy2⟩ : ∃ y, y = (y1 + d) % 4294967296 := ⟨_, rfl⟩
      obtain ⟨y3, hy3⟩ : ∃ y, y = (y2 + sg1 b) % 4294967296 := ⟨_, rfl⟩
      have e15 : IntKind.i64.wrap ((k : Int) + 16 - 15) = (k : Int) + 1 := by rw [show ((k : Int) + 16 - 15) = (k : Int) + 1 by omega]; exact IntWalk.i64_in _ (by omega)
      have e2 : IntKind.i64.wrap ((k : Int) + 16 - 2) = (k : Int) + 14 := by rw [show ((k : Int) + 16 - 2) = (k : Int) + 14 by omega]; exact IntWalk.i64_in _ (by omega)
      have e16 : IntKind.i64.wrap ((k : Int) + 16 - 16) = (k : Int) := by rw [show ((k : Int) + 16 - 16) = (k : Int) by omega]; exact IntWalk.i64_in _ (by omega)
      have e7 : IntKind.i64.wrap ((k : Int) + 16 - 7) = (k : Int) + 9 := by rw [show ((k : Int) + 16 - 7) = (k : Int) + 9 by omega]; exact IntWalk.i64_in _ (by omega)
      have e16' : IntKind.i64.wrap (k : Int) = (k : Int) := IntWalk.i64_in _ (by omega)
      have n1 : ((k : Int) + 1).toNat = k + 1 := by omega
      have n14 : ((k : Int) + 14).toNat = k + 14 := by omega
      have n9 : ((k : Int) + 9).toNat = k + 9 := by omega
      have n16 : ((k : Int) + 16).toNat = k + 16 := by omega
      have b1 : (0 : Int) ≤ (k : Int) + 1 := by omega
      have b14 : (0 : Int) ≤ (k : Int) + 14 := by omega
      have b9 : (0 : Int) ≤ (k : Int) + 9 := by omega
      have b16 : (0 : Int) ≤ (k : Int) + 16 := by omega
      have t1 : (k : Int) + 1 < 64 := by omega
      have t14 : (k : Int) + 14 < 64 := by omega
      have t9 : (k : Int) + 9 < 64 := by omega
      have t0 : (k : Int) < 64 := by omega
      have t16 : (k : Int) + 16 < 64 := by omega
      have X1 : bits .xor .u32 (bits .xor .u32 ((rotN a 7 : Nat) : Int) ((rotN a 18 : Nat) : Int)) ((a : Int) / 8) = ((sg0 a : Nat) : Int) := by
        rw [xor32 (rot_lt wa (by decide)) (rot_lt wa (by decide)), show ((a : Int) / 8) = ((a / 8 : Nat) : Int) by simp, xor32 (xor_lt (rot_lt wa (by decide)) (rot_lt wa (by decide))) (Nat.lt_of_le_of_lt (Nat.div_le_self _ _) wa)]; rfl
      have X2 : bits .xor .u32 (bits .xor .u32 ((rotN b 17 : Nat) : Int) ((rotN b 19 : Nat) : Int)) ((b : Int) / 1024) = ((sg1 b : Nat) : Int) := by
        rw [xor32 (rot_lt wb (by decide)) (rot_lt wb (by decide)), show ((b : Int) / 1024) = ((b / 1024 : Nat) : Int) by simp, xor32 (xor_lt (rot_lt wb (by decide)) (rot_lt wb (by decide))) (Nat.lt_of_le_of_lt (Nat.div_le_self _ _) wb)]; rfl
      have Y1 : IntKind.u32.wrap ((c : Int) + (sg0 a : Nat)) = (y1 : Int) := by rw [add32, hy1]
      have Y2 : IntKind.u32.wrap ((y1 : Int) + (d : Int)) = (y2 : Int) := by rw [add32, hy2]
      have Y3 : IntKind.u32.wrap ((y2 : Int) + (sg1 b : Nat)) = (y3 : Int) := by rw [add32, hy3]
      have HY : Hid (y3 = nextW (schedN k x)) := Lib.hid (by rw [hy3, hy2, hy1]; exact HN.out)
      clear hy1 hy2 hy3 HN
      go_wp2
      go_quiet (fail)
      go_wp2_with (first | (go_at_call 149; (with_reducible refine (rot7 _ _ wa).mono ?_); rintro e w' ⟨rfl, rfl⟩) | (go_at_call 149; (with_reducible refine (rot18 _ _ wa).mono ?_); rintro e w' ⟨rfl, rfl⟩) | (go_at_call 149; (with_reducible refine (rot17 _ _ wb).mono ?_); rintro e w' ⟨rfl, rfl⟩) | (go_at_call 149; (with_reducible refine (rot19 _ _ wb).mono ?_); rintro e w' ⟨rfl, rfl⟩))
      go_region
      go_wp2
      go_roundw
      case rel => exact ⟨k + 1, by omega, by go_num, Lib.hid (by rw [← sched_set HX.out hlt, ← HY.out]; exact row_wset (w := wr.drewN (nq + 1)) (k + 16) y3 hg.out), bSg (bNg hb _) (Nat.le_refl _) _⟩
      case measure => simp [intOf]; omega
    · obtain rfl : k = 48 := by omega
      have hg' := hg.out
      rw [show 48 - 48 = 0 from rfl, List.replicate_zero, List.append_nil] at hg'
      obtain ⟨ws, hws⟩ : ∃ ws, schedN 48 x = ws := ⟨_, rfl⟩
      have hwl : ws.length = 64 := by rw [← hws, sched_len, HX.out]
      have www : W32 ws := by rw [← hws]; exact sched_W32 _ _ wx
      rw [hws] at hg'
      have HWS : Hid (∀ n, n = 48 → schedN n x = ws) := Lib.hid (fun n e => by rw [e, hws])
      have HG := Lib.hid hg'
      have HWL := Lib.hid hwl
      have gh := (hb.block w.heap.size (by omega)).trans a0
      clear hg hg' hws hwl hlt hk
      obtain ⟨wo, rfl⟩ : ∃ wo : World, wo = wr := ⟨_, rfl⟩
      have hgl : w.heap.size + 1 + 1 + 1 < wo.heap.size := (Array.getElem?_eq_some_iff.1 HG.out).1
      obtain ⟨w2, hw2, gv, hb2, hz2⟩ := newRow wo (wv (List.replicate 8 0)).toArray (wv h).toArray 147
      have gs := (hb2.block _ (by omega)).trans HG.out
      have gh2 := (hb2.block _ (by omega)).trans gh
      have HB2 := Lib.hid (bTg (bTg hb0 hb (by omega)) hb2 (by omega))
      have HZ2 := Lib.hid hz2
      have HW2 := Lib.hid hw2
      clear hz2 hw2 az
      go_wp2_with (first | (refine wpList_load_row rfl 147 (.tmp 2) rfl w.heap.size rfl 147 (wv h).toArray (0, 0) _ gh Try.underlying147 rfl (by rw [List.size_toArray, wv_len, HH.out]; exact info8) ?_) | (refine wpList_store_row rfl 147 _ _ rfl wo.heap.size (wv h).toArray rfl rfl 147 _ (heap_alloc_new wo _) (by rw [List.size_toArray, wv_len, HH.out]; exact info8) (show 8 = (wv h).toArray.size by rw [List.size_toArray, wv_len, HH.out]) (all_one (wv_one _)) ?_; generalize hW2 : World.setRow _ _ _ = w22; obtain rfl : w2 = w22 := (by rw [← HW2.out, ← hW2]; kernel_rfl)))
      go_loopw [69] (fun i wq => ∃ t : Nat, t ≤ 64 ∧ i = .int .i64 (t : Int) ∧ Hid (wq.heap[wo.heap.size]? = some (.cells (wv (rndsN (kN.take t) (ws.take t) h)).toArray 147 (0, 0))) ∧ Below wo.heap.size w2 wq) (fun i _ => 64 - (intOf i).toNat)
      case atStart => exact ⟨0, Nat.zero_le _, rfl, Lib.hid gv, ⟨rfl, rfl, rfl, by have := HZ2.out; omega, fun _ _ => rfl⟩⟩
      case round =>
        obtain ⟨t, ht, rfl, hg, hbq⟩ := hrel
        by_cases hlt : t < 64
        · obtain ⟨V, hV⟩ : ∃ V, rndsN (kN.take t) (ws.take t) h = V := ⟨_, rfl⟩
          have hVl : V.length = 8 := by rw [← hV]; exact rnds_len HH.out
          have hVw : W32 V := by rw [← hV]; exact rnds_W32 wh
          rw [hV] at hg
          have c0 := row_wv (j := 0) hg.out (by omega)
          have c1 := row_wv (j := 1) hg.out (by omega)
          have c2 := row_wv (j := 2) hg.out (by omega)
          have c3 := row_wv (j := 3) hg.out (by omega)
          have c4 := row_wv (j := 4) hg.out (by omega)
          have c5 := row_wv (j := 5) hg.out (by omega)
          have c6 := row_wv (j := 6) hg.out (by omega)
          have c7 := row_wv (j := 7) hg.out (by omega)
          have gs' := (hbq.block _ (by omega)).trans gs
          have cw := row_wv (j := t) gs' (by rw [HWL.out]; omega)
          have l0 := hVw.at_ 0
          have l1 := hVw.at_ 1
          have l2 := hVw.at_ 2
          have l3 := hVw.at_ 3
          have l4 := hVw.at_ 4
          have l5 := hVw.at_ 5
          have l6 := hVw.at_ 6
          have HV := Lib.hid hV
          have HVL := Lib.hid hVl
          clear hV hVl gs'
          obtain ⟨va, hva⟩ : ∃ y, V.getD 0 0 = y := ⟨_, rfl⟩
          obtain ⟨vb, hvb⟩ : ∃ y, V.getD 1 0 = y := ⟨_, rfl⟩
          obtain ⟨vc, hvc⟩ : ∃ y, V.getD 2 0 = y := ⟨_, rfl⟩
          obtain ⟨vd, hvd⟩ : ∃ y, V.getD 3 0 = y := ⟨_, rfl⟩
          obtain ⟨ve, hve⟩ : ∃ y, V.getD 4 0 = y := ⟨_, rfl⟩
          obtain ⟨vf, hvf⟩ : ∃ y, V.getD 5 0 = y := ⟨_, rfl⟩
          obtain ⟨vg, hvg⟩ : ∃ y, V.getD 6 0 = y := ⟨_, rfl⟩
          obtain ⟨vh, hvh⟩ : ∃ y, V.getD 7 0 = y := ⟨_, rfl⟩
          obtain ⟨wt, hwt⟩ : ∃ y, ws.getD t 0 = y := ⟨_, rfl⟩
          obtain ⟨kt, hkt⟩ : ∃ y, kN.getD t 0 = y := ⟨_, rfl⟩
          rw [hva] at c0 l0
          rw [hvb] at c1 l1
          rw [hvc] at c2 l2
          rw [hvd] at c3 l3
          rw [hve] at c4 l4
          rw [hvf] at c5 l5
          rw [hvg] at c6 l6
          rw [hvh] at c7
          rw [hwt] at cw
          have HT1 : Hid (t1N V kt wt = ((((vh + bs1 ve) % 4294967296 + chN ve vf vg) % 4294967296 + kt) % 4294967296 + wt) % 4294967296) := Lib.hid (by unfold t1N; rw [hvh, hve, hvf, hvg])
          have HT2 : Hid (t2N V = (bs0 va + majN va vb vc) % 4294967296) := Lib.hid (by unfold t2N; rw [hva, hvb, hvc])
          have HRN : Hid (rndN V kt wt = [(t1N V kt wt + t2N V) % 4294967296, va, vb, vc, (vd + t1N V kt wt) % 4294967296, ve, vf, vg]) := Lib.hid (by unfold rndN; rw [hva, hvb, hvc, hvd, hve, hvf, hvg])
          have HVD := Lib.hid hvd
          have HKT := Lib.hid hkt
          have HWT := Lib.hid hwt
          clear hva hvb hvc hvd hve hvf hvg hvh hwt hkt
          obtain ⟨z1, hz1⟩ : ∃ y, y = (vh + bs1 ve) % 4294967296 := ⟨_, rfl⟩
          obtain ⟨z2, hz2⟩ : ∃ y, y = (z1 + chN ve vf vg) % 4294967296 := ⟨_, rfl⟩
          obtain ⟨z3, hz3⟩ : ∃ y, y = (z2 + kt) % 4294967296 := ⟨_, rfl⟩
          obtain ⟨t1, ht1⟩ : ∃ y, y = (z3 + wt) % 4294967296 := ⟨_, rfl⟩
          obtain ⟨t2, ht2⟩ : ∃ y, y = (bs0 va + majN va vb vc) % 4294967296 := ⟨_, rfl⟩
          obtain ⟨n0, hn0⟩ : ∃ y, y = (t1 + t2) % 4294967296 := ⟨_, rfl⟩
          obtain ⟨n4, hn4⟩ : ∃ y, y = (vd + t1) % 4294967296 := ⟨_, rfl⟩
          have Z1 : bits .xor .u32 (bits .xor .u32 ((rotN ve 6 : Nat) : Int) ((rotN ve 11 : Nat) : Int)) ((rotN ve 25 : Nat) : Int) = ((bs1 ve : Nat) : Int) := by
            rw [xor32 (rot_lt l4 (by decide)) (rot_lt l4 (by decide)), xor32 (xor_lt (rot_lt l4 (by decide)) (rot_lt l4 (by decide))) (rot_lt l4 (by decide))]; rfl
          have Z2 : bits .xor .u32 (bits .xor .u32 ((rotN va 2 : Nat) : Int) ((rotN va 13 : Nat) : Int)) ((rotN va 22 : Nat) : Int) = ((bs0 va : Nat) : Int) := by
            rw [xor32 (rot_lt l0 (by decide)) (rot_lt l0 (by decide)), xor32 (xor_lt (rot_lt l0 (by decide)) (rot_lt l0 (by decide))) (rot_lt l0 (by decide))]; rfl
          have Z3 : bits .xor .u32 (bits .and .u32 (ve : Int) (vf : Int)) (bits .and .u32 (bits .xor .u32 4294967295 (ve : Int)) (vg : Int)) = ((chN ve vf vg : Nat) : Int) := by
            rw [and32 l4 l5, show (4294967295 : Int) = ((4294967295 : Nat) : Int) from rfl, xor32 (by decide) l4, and32 (xor_lt (by decide) l4) l6, xor32 (and_lt l4) (and_lt' l6)]; rfl
          have Z4 : bits .xor .u32 (bits .xor .u32 (bits .and .u32 (va : Int) (vb : Int)) (bits .and .u32 (va : Int) (vc : Int))) (bits .and .u32 (vb : Int) (vc : Int)) = ((majN va vb vc : Nat) : Int) := by
            rw [and32 l0 l1, and32 l0 l2, and32 l1 l2, xor32 (and_lt l0) (and_lt l0), xor32 (xor_lt (and_lt l0) (and_lt l0)) (and_lt l1)]; rfl
          have A1 : IntKind.u32.wrap ((vh : Int) + (bs1 ve : Nat)) = (z1 : Int) := by rw [add32, hz1]
          have A2 : IntKind.u32.wrap ((z1 : Int) + (chN ve vf vg : Nat)) = (z2 : Int) := by rw [add32, hz2]
          have A3 : IntKind.u32.wrap ((z2 : Int) + (kt : Int)) = (z3 : Int) := by rw [add32, hz3]
          have A4 : IntKind.u32.wrap ((z3 : Int) + (wt : Int)) = (t1 : Int) := by rw [add32, ht1]
          have A5 : IntKind.u32.wrap ((bs0 va : Nat) + (majN va vb vc : Nat) : Int) = (t2 : Int) := by rw [add32, ht2]
          have A6 : IntKind.u32.wrap ((t1 : Int) + (t2 : Int)) = (n0 : Int) := by rw [add32, hn0]
          have A7 : IntKind.u32.wrap ((vd : Int) + (t1 : Int)) = (n4 : Int) := by rw [add32, hn4]
          have HN : Hid (rndN V kt wt = [n0, va, vb, vc, n4, ve, vf, vg]) := Lib.hid (by rw [HRN.out, HT1.out, HT2.out, hn0, hn4, ht2, ht1, hz3, hz2, hz1])
          clear hz1 hz2 hz3 ht1 ht2 hn0 hn4 HRN HT1 HT2 l1 l2 l3 l5 l6
          go_wp2
          go_quiet (fail)
          go_wp2
          obtain ⟨wq, hwq⟩ : ∃ wq, wr.drewN nq = wq := ⟨_, rfl⟩
          have hgq : wq.heap[wo.heap.size]? = some (.cells (wv V).toArray 147 (0, 0)) := by rw [← hwq]; exact hg.out
          have hS : Below wo.heap.size w2 wq ∧ wq.cell? ⟨wo.heap.size, 7, none⟩ = some (.int .u32 (vh : Int)) ∧ wq.cell? ⟨w.heap.size + 1 + 1 + 1, t, none⟩ = some (.int .u32 (wt : Int)) := by rw [← hwq]; exact ⟨bNg hbq _, c7, cw⟩
          have hqz : wo.heap.size ≤ wq.heap.size := Nat.le_of_lt (Array.getElem?_eq_some_iff.1 hgq).1
          have hsg : IntKind.u32.signed = false := rfl
          have hmx : IntKind.u32.max = 4294967295 := by decide
          have HGQ := Lib.hid hgq
          rw [hwq]
          clear hwq hgq c0 c1 c2 c3 c4 c5 c6 c7 cw hg hbq
          go_region_held3 (fun w9 => Below wo.heap.size w2 w9 ∧ w9.cell? ⟨wo.heap.size, 7, none⟩ = some (.int .u32 (vh : Int)) ∧ w9.cell? ⟨w.heap.size + 1 + 1 + 1, t, none⟩ = some (.int .u32 (wt : Int))) (first | assumption | exact ⟨hS.1.drew, hS.2⟩ | exact keep_b2 ⟨hS.1.drew, hS.2⟩ hqz hb)
            (first | (go_at_call 149; (with_reducible refine (rot6 _ _ l4).mono ?_); rintro e w' ⟨rfl, rfl⟩) | (go_at_call 149; (with_reducible refine (rot11 _ _ l4).mono ?_); rintro e w' ⟨rfl, rfl⟩) | (go_at_call 149; (with_reducible refine (rot25 _ _ l4).mono ?_); rintro e w' ⟨rfl, rfl⟩) | (go_at_call 150; (with_reducible refine (const_at _ _ hlt HKT.out).mono ?_); rintro e w' ⟨rfl, hb⟩))
          have hS2 : Below wo.heap.size w2 w' ∧ w'.heap[wo.heap.size]? = some (.cells (wv V).toArray 147 (0, 0)) := ⟨(by assumption : _ ∧ _).1, (hb.block wo.heap.size (by show _ < wq.heap.size; exact (Array.getElem?_eq_some_iff.1 HGQ.out).1)).trans HGQ.out⟩
          have c3 := row_wv (j := 3) hS2.2 (by rw [HVL.out]; decide)
          rw [HVD.out] at c3
          have HB3 := Lib.hid hS2
          clear hb hS hS2
          have d0 := row_wv (j := 0) HB3.out.2 (by rw [HVL.out]; decide)
          have d1 := row_wv (j := 1) HB3.out.2 (by rw [HVL.out]; decide)
          have d2 := row_wv (j := 2) HB3.out.2 (by rw [HVL.out]; decide)
          have d4 := row_wv (j := 4) HB3.out.2 (by rw [HVL.out]; decide)
          have d5 := row_wv (j := 5) HB3.out.2 (by rw [HVL.out]; decide)
          have d6 := row_wv (j := 6) HB3.out.2 (by rw [HVL.out]; decide)
          have d7 := row_wv (j := 7) HB3.out.2 (by rw [HVL.out]; decide)
          have fz := row_free HB3.out.2
          go_wp2_with (first | (go_at_call 149; (with_reducible refine (rot2 _ _ l0).mono ?_); rintro e w9 ⟨rfl, rfl⟩) | (go_at_call 149; (with_reducible refine (rot13 _ _ l0).mono ?_); rintro e w9 ⟨rfl, rfl⟩) | (go_at_call 149; (with_reducible refine (rot22 _ _ l0).mono ?_); rintro e w9 ⟨rfl, rfl⟩))
          go_roundw
          case rel => exact ⟨t + 1, by omega, by go_num, Lib.hid (by rw [rnds_snoc (by rw [k_len]; omega) (by rw [HWL.out]; omega), HV.out, HKT.out, HWT.out, HN.out, ← set8 HVL.out n0 va vb vc n4 ve vf vg]; exact row_wset 7 vg (row_wset 6 vf (row_wset 5 ve (row_wset 4 n4 (row_wset 3 vc (row_wset 2 vb (row_wset 1 va (row_wset 0 n0 (HB3.out.2))))))))), bSg (bSg (bSg (bSg (bSg (bSg (bSg (bSg (HB3.out.1) (Nat.le_refl _) _) (Nat.le_refl _) _) (Nat.le_refl _) _) (Nat.le_refl _) _) (Nat.le_refl _) _) (Nat.le_refl _) _) (Nat.le_refl _) _) (Nat.le_refl _) _⟩
          case measure => simp [intOf]; omega
        · obtain rfl : t = 64 := by omega
          rw [List.take_of_length_le (show kN.length ≤ 64 by rw [k_len]; exact Nat.le_refl _), List.take_of_length_le (show ws.length ≤ 64 by rw [HWL.out]; exact Nat.le_refl _)] at hg
          obtain ⟨V, hV⟩ : ∃ V, rndsN kN ws h = V := ⟨_, rfl⟩
          have hVl : V.length = 8 := by rw [← hV]; exact rnds_len HH.out
          rw [hV] at hg
          have HV := Lib.hid hV
          have HVL := Lib.hid hVl
          have HG3 := Lib.hid hg
          have gh3 := (hbq.block _ (by omega)).trans gh2
          have HBB := Lib.hid (bTg HB2.out hbq (by omega))
          clear hV hVl hg
          obtain ⟨w3, rfl⟩ : ∃ w3 : World, w3 = wr := ⟨_, rfl⟩
          go_wp2
          go_loopw [146] (fun i wq => ∃ t : Nat, t ≤ 8 ∧ i = .int .i64 (t : Int) ∧ Hid (wq.heap[wo.heap.size]? = some (.cells (wv (addN (V.take t) (h.take t) ++ V.drop t)).toArray 147 (0, 0))) ∧ Below wo.heap.size w3 wq) (fun i _ => 8 - (intOf i).toNat)
          case atStart => exact ⟨0, Nat.zero_le _, rfl, Lib.hid (by have h := HG3.out.out; simpa [addN] using h), Below.refl _ _⟩
          case round =>
            obtain ⟨t, ht, rfl, hg, hb4⟩ := hrel
            by_cases hlt : t < 8
            · have cv := row_wv (j := t) hg.out (by rw [addJ_len HVL.out HH.out (by omega)]; omega)
              rw [addJ_at HVL.out HH.out hlt] at cv
              have ch := row_wv (j := t) ((hb4.block _ (by omega)).trans gh3) (by rw [HH.out]; omega)
              have fz := row_free hg.out
              obtain ⟨x1, hx1⟩ : ∃ y, V.getD t 0 = y := ⟨_, rfl⟩
              obtain ⟨x2, hx2⟩ : ∃ y, h.getD t 0 = y := ⟨_, rfl⟩
              rw [hx1] at cv
              rw [hx2] at ch
              obtain ⟨x3, hx3⟩ : ∃ y, (x1 + x2) % 4294967296 = y := ⟨_, rfl⟩
              have A1 : IntKind.u32.wrap ((x1 : Int) + (x2 : Int)) = (x3 : Int) := by rw [add32, hx3]
              have HX3 : Hid (x3 = (V.getD t 0 + h.getD t 0) % 4294967296) := Lib.hid (by rw [hx1, hx2, hx3])
              clear hx1 hx2 hx3
              go_wp2
              go_region
              go_wp2
              go_roundw
              case rel => exact ⟨t + 1, by omega, by go_num, Lib.hid (by rw [← addJ HVL.out HH.out hlt, ← HX3.out]; exact row_wset t x3 hg.out), bSg (bDg hb4) (Nat.le_refl _) _⟩
              case measure => simp [intOf]; omega
            · obtain rfl : t = 8 := by omega
              have hg' := hg.out
              rw [List.take_of_length_le (by rw [HVL.out]; exact Nat.le_refl _), List.take_of_length_le (by rw [HH.out]; exact Nat.le_refl _), List.drop_eq_nil_of_le (by rw [HVL.out]; exact Nat.le_refl _), List.append_nil] at hg'
              have hbl : Hid (addN V h = blockN h x) := Lib.hid (by unfold blockN; rw [HWS.out 48 rfl, HV.out])
              rw [hbl.out] at hg'
              obtain ⟨B, hB⟩ : ∃ B, blockN h x = B := ⟨_, rfl⟩
              have hBl : B.length = 8 := by rw [← hB]; exact block_len HH.out
              rw [hB] at hg'
              have HBL := Lib.hid hBl
              have HGB := Lib.hid hg'
              have HB := Lib.hid hB
              have gr : wr.heap[w.heap.size + 1 + 1]? = some (.cells (wv (List.replicate 8 0)).toArray 147 (0, 0)) := (hb4.block _ (by omega)).trans ((hbq.block _ (by omega)).trans ((hb2.block _ (by omega)).trans ((hb.block _ (by omega)).trans a2)))
              have HBE := Lib.hid (bTg HBB.out hb4 (by omega))
              clear hg hg' hbl hB hBl
              go_wp2_with (first | (refine wpList_load_row rfl 147 (.tmp 11) rfl wo.heap.size rfl 147 (wv B).toArray (0, 0) _ HGB.out Try.underlying147 rfl ?_ ?_; (focus (rw [List.size_toArray, wv_len, HBL.out]; exact info8))) | (refine wpList_store_row rfl 147 (.tmp 4) _ rfl (w.heap.size + 1 + 1) (wv B).toArray rfl rfl 147 _ gr ?_ ?_ (all_one (wv_one _)) ?_; (focus (rw [List.size_toArray, wv_len, HBL.out]; exact info8)); (focus (rw [List.size_toArray, wv_len, List.size_toArray, wv_len, HBL.out]; rfl))))
              refine bodyPost_ret (v := .agg (wv B).toArray) (results_cell_row rfl _ _ (w.heap.size + 1 + 1) 147 (wv B).toArray (0, 0) _ rfl (setRow_heap _ _ _ _ _ _ gr) Try.underlying147 rfl (by rw [List.size_toArray, wv_len, HBL.out]; exact info8)) rfl ⟨by rw [← HB.out], setRow_below HBE.out (by omega)⟩
end Go.Proofs.Ytachkhjbckapoaa

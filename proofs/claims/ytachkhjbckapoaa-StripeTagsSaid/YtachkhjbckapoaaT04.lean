/- An append onto a row of the call's own keeps the cells of the old slice. Layer 2, the reference's block. Condition: the rows are of 8 and 16 words. Words on memory: append of zeros onto a row of the call's own; a copy of bytes. Layer 2: bytes are filled up to whole blocks, by the program. Condition: not more than some 2^46 bytes. Layer 2, the reference: its first values; bytes are filled up to whole blocks. Condition: not more than a million bytes. A number as digits: what bcd.Put and its reference compute, for every number and width. No condition. -/
import Derived.Test.YtachkhjbckapoaaT00
import Derived.ArgAppend
import Derived.Test.YtachkhjbckapoaaT01
import Derived.Test.YtachkhjbckapoaaT03
import Derived.Lib.AppendZerosOnto
import Derived.WalkSpells
namespace Go.Proofs.Ytachkhjbckapoaa
open Go.RowKit
set_option linter.unusedVariables false
set_option maxRecDepth 100000
set_option linter.unusedSimpArgs false

theorem run_append_keep {P : Program} (w : World) (base : Nat) (t ty e : TypeId) (i : TypeInfo) (z : Value) (bytes : Nat) (ht : P.underlying t = some (.slice e)) (hi : P.info? e = some i) (hz : i.zero = some z)
    (hsize : i.size = 1) (hby : i.bytes = bytes) (hzs : z.cells.size = 1)
    (v : Value) (n : Nat) (xs : List Value) (hown : w.ownsRow base e 1 v n xs)
    (a : Addr) (m c : Nat) (news : List Value) (hl : news.length = m) (hnews : ∀ j u, news[j]? = some u → w.cell? (a.add j) = some u) (h1 : ∀ u ∈ news, u.oneCell' = true)
    (h63 : n + m ≤ maxLen) (hbytes : (n + m) * bytes ≤ 140737488355328) (hbase : base ≤ w.heap.size) :
    ∃ v' w', (Builtin.append_ #[t, t] ty #[v, .slice (some a) m c]).run P w = .ok v' w' ∧ w'.ownsRow base e 1 v' (n + m) (xs ++ news) ∧ w.grownBy w' v.ownBlock ∧
      ∀ (ad : Addr) (c' : Nat), v = .slice (some ad) n c' → ∀ j, j < n → ∀ u, w.cell? (ad.add j) = some u → w'.cell? (ad.add j) = some u := by
  obtain ⟨v', w', hr, h2, h3, _, _⟩ := run_append_own_at (P := P) (w := w) base t ty e i z 1 bytes ht hi hz hsize hby hzs (by omega) v n xs hown a m c news (by omega) hnews h1 h63 hbytes hbase
  refine ⟨v', w', hr, h2, h3, fun ad c' hv j hj u hu => ?_⟩
  have hxs := hown.1
  rcases hown.2 with ⟨hn, _⟩ | ⟨g, cap, cur, hv2, hb, hg, hnc, hcm, hcs, htake⟩
  · rw [hv] at hn; cases hn
  · rw [hv] at hv2
    simp only [Value.slice.injEq, Option.some.injEq, true_and] at hv2
    obtain ⟨rfl, rfl⟩ := hv2
    subst hv
    by_cases hroom : n + m ≤ c'
    · have hrun := run_append_room_cells (P := P) (w := w) t ty e i ht hi g 0 n c' a m c news (by rw [hsize]; omega) hnews h1 hroom
        (fun j hj => by rw [cell_of_row w g _ cur e (0, 0) hg, Array.getElem?_eq_getElem (by rw [hcs, hsize]; omega)]; rfl)
        (fun j hj => frozen_of_row w g _ cur e hg)
      rw [hr] at hrun
      cases hrun
      rw [World.cell?_setCells_out g news _ w _ (fun _ _ => Or.inl (by rw [hsize]; unfold Addr.add; split <;> simp_all))]
      exact hu
    · obtain ⟨v2, w2, hr2, r1, r2⟩ := run_append_arg_grows (P := P) (w := w) t ty e i z 1 bytes ht hi hz hsize hby hzs (by omega) ⟨g, 0, none⟩ n c' xs (by omega)
        (fun j u hj => by
          have : j < n := by have := (List.getElem?_eq_some_iff.1 hj).1; omega
          rw [show (⟨g, 0, none⟩ : Addr).add j = ⟨g, j, none⟩ by unfold Addr.add; split <;> simp_all, cell_of_row w g j cur e (0, 0) hg]
          rw [← htake, List.getElem?_take_of_lt (by omega)] at hj
          simpa using hj)
        a m c news (by omega) hnews (by omega) h63 hbytes
      rw [hr] at hr2
      cases hr2
      exact r2.cell hu (by simp)
theorem wpO_appk {P : Program} {w : World} {o : Oper} {a : Act} {Q : Exit → Act → World → Prop} {K : Act → World → Prop} {k : IntKind} (s x : Operand) (t : TypeId)
    (ho : o.op = .call { callee := .builtin .append, args := #[s, x], argTypes := #[t, t] })
    (base : Nat) (e : TypeId) (i : TypeInfo) (z : Value) (bytes : Nat) (ht : P.underlying t = some (.slice e)) (hi : P.info? e = some i) (hz : i.zero = some z)
    (hsize : i.size = 1) (hby : i.bytes = bytes) (hzs : z.cells.size = 1)
    (v : Value) (xs : List Int) (hs : a.eval s = v) (hown : w.ownsRow base e 1 v xs.length (xs.map (.int k)))
    (g c : Nat) (y : Int) (hx : a.eval x = .slice (some ⟨g, 0, none⟩) 1 c) (hr : w.cell? ⟨g, 0, none⟩ = some (.int k y))
    (h63 : xs.length + 1 ≤ maxLen) (hbytes : (xs.length + 1) * bytes ≤ 140737488355328) (hbase : base ≤ w.heap.size)
    (h : ∀ v' w', w'.ownsRow base e 1 v' (xs ++ [y]).length ((xs ++ [y]).map (.int k)) → w.grownBy w' v.ownBlock →
      (∀ (ad : Addr) (c' : Nat), v = .slice (some ad) xs.length c' → ∀ j, j < xs.length → ∀ u, w.cell? (ad.add j) = some u → w'.cell? (ad.add j) = some u) → K (a.put o.dst v') w') :
    o.wp P a w K Q := by
  obtain ⟨v', w', hrun, h1, h2, h3⟩ := run_append_keep (P := P) w base t o.type e i z bytes ht hi hz hsize hby hzs v xs.length (xs.map (.int k)) hown ⟨g, 0, none⟩ 1 c [.int k y] rfl (fun j u hj => by
    match j, hj with
    | 0, hj => simp at hj; subst hj; simpa [Addr.add] using hr) (by simp [Value.oneCell']) h63 hbytes hbase
  unfold Oper.wp execOp
  simp only [ho, resolve, invoke, builtin, Sem.run_bind, Sem.run_pure, Result.andThen_ok, List.map_toArray, List.map_cons, List.map_nil, hs, hx, hrun]
  exact h v' w' (by simpa using h1) h2 h3
end Go.Proofs.Ytachkhjbckapoaa

namespace Go.Proofs.Ytachkhjbckapoaa
open Go.RowKit
set_option linter.unusedVariables false
set_option maxRecDepth 100000
set_option linter.unusedSimpArgs false

/-- The first t words of the schedule. -/
def schT (x : List Nat) (t : Nat) : List Nat := (schedN (t - 16) x).take t
theorem schT_len {x : List Nat} (hx : x.length = 16) {t : Nat} : (schT x t).length = t := by
  unfold schT; rw [List.length_take, sched_len, hx]; omega
theorem schT_lo {x : List Nat} (hx : x.length = 16) {t : Nat} (ht : t < 16) : schT x (t + 1) = schT x t ++ [x.getD t 0] := by
  unfold schT
  rw [show t + 1 - 16 = 0 by omega, show t - 16 = 0 by omega]
  show x.take (t + 1) = x.take t ++ _
  rw [List.take_succ_eq_append_getElem (by omega)]
  simp [List.getD_eq_getElem?_getD, show t < x.length by omega]
theorem schT_hi {x : List Nat} (hx : x.length = 16) {t : Nat} (ht : 16 ≤ t) : schT x t = schedN (t - 16) x := by
  unfold schT
  exact List.take_of_length_le (by rw [sched_len, hx]; omega)
theorem schT_next {x : List Nat} (hx : x.length = 16) {t : Nat} (ht : 16 ≤ t) : schT x (t + 1) = schT x t ++ [nextW (schT x t)] := by
  rw [schT_hi hx ht, schT_hi hx (show 16 ≤ t + 1 by omega), show t + 1 - 16 = (t - 16) + 1 by omega, sched_snoc]
theorem schT_64 {x : List Nat} (hx : x.length = 16) : schT x 64 = schedN 48 x := schT_hi hx (by omega)
theorem schT_W32 {x : List Nat} (hw : W32 x) (t : Nat) : W32 (schT x t) := fun y hy => sched_W32 _ _ hw y (List.mem_of_mem_take hy)
def nI (l : List Nat) : List Int := l.map (fun n : Nat => (n : Int))
theorem nI_len (l : List Nat) : (nI l).length = l.length := by unfold nI; simp

theorem nI_at {l : List Nat} {j : Nat} (hj : j < l.length) : (nI l).getD j 0 = ((l.getD j 0 : Nat) : Int) := by simp [nI, List.getD_eq_getElem?_getD, hj]
theorem nI_next {x : List Nat} (hx : x.length = 16) {t : Nat} (ht : 16 ≤ t) : nI (schT x t) ++ [((nextW (schT x t) : Nat) : Int)] = nI (schT x (t + 1)) := by
  rw [schT_next hx ht]; unfold nI; rw [List.map_append]; rfl
theorem next_of {Y : List Nat} {k a b c d : Nat} (hl : Y.length = k + 16) (hc : Y.getD k 0 = c) (ha : Y.getD (k + 1) 0 = a) (hd : Y.getD (k + 9) 0 = d) (hb : Y.getD (k + 14) 0 = b) :
    (((c + sg0 a) % 4294967296 + d) % 4294967296 + sg1 b) % 4294967296 = nextW Y := by
  unfold nextW
  rw [hl, show k + 16 - 16 = k by omega, show k + 16 - 15 = k + 1 by omega, show k + 16 - 7 = k + 9 by omega, show k + 16 - 2 = k + 14 by omega, hc, ha, hd, hb]
theorem cell4_keep {W w9 : World} {a1 a2 a3 a4 : Addr} {v1 v2 v3 v4 : Value} (hb : Below W.heap.size W w9) (h : W.cell? a1 = some v1 ∧ W.cell? a2 = some v2 ∧ W.cell? a3 = some v3 ∧ W.cell? a4 = some v4) :
    w9.cell? a1 = some v1 ∧ w9.cell? a2 = some v2 ∧ w9.cell? a3 = some v3 ∧ w9.cell? a4 = some v4 := ⟨keepc_rw hb h.1, keepc_rw hb h.2.1, keepc_rw hb h.2.2.1, keepc_rw hb h.2.2.2⟩

theorem app4_keep {W w3 : World} {ad : Addr} {n c0 k : Nat} {u1 u2 u3 u4 : Value} (hn : n = k + 16) (hk : ∀ (a : Addr) (c' : Nat), Value.slice (some ad) n c0 = .slice (some a) n c' → ∀ j, j < n → ∀ u, W.cell? (a.add j) = some u → w3.cell? (a.add j) = some u)
    (h : W.cell? (ad.add k) = some u1 ∧ W.cell? ⟨ad.block, ad.off + (k + 1), none⟩ = some u2 ∧ W.cell? ⟨ad.block, ad.off + (k + 8 + 1), none⟩ = some u3 ∧ W.cell? ⟨ad.block, ad.off + (k + 13 + 1), none⟩ = some u4) :
    w3.cell? (ad.add k) = some u1 ∧ w3.cell? ⟨ad.block, ad.off + (k + 1), none⟩ = some u2 ∧ w3.cell? ⟨ad.block, ad.off + (k + 8 + 1), none⟩ = some u3 ∧ w3.cell? ⟨ad.block, ad.off + (k + 13 + 1), none⟩ = some u4 := by
  rw [← add_succ, ← add_succ, ← add_succ] at h ⊢
  exact ⟨hk ad c0 rfl _ (by omega) _ h.1, hk ad c0 rfl _ (by omega) _ h.2.1, hk ad c0 rfl _ (by omega) _ h.2.2.1, hk ad c0 rfl _ (by omega) _ h.2.2.2⟩

theorem refConst_rd (w : World) : Calls Try.prog 152 #[] w fun e w' => ∃ ad : Addr, e = .returned (.slice (some ad) 64 64) ∧ RdI w' .u32 (some ad) kI ∧ Below w.heap.size w w' :=
  (refConst_any w).mono fun e w' ⟨he, hr, hb⟩ => ⟨_, he, hr, hb⟩
theorem kI_at {t kt : Nat} (ht : t < 64) (h : kN.getD t 0 = kt) : kI.getD t 0 = (kt : Int) := by
  subst h; unfold kI; simp [List.getD_eq_getElem?_getD, show t < kN.length by rw [k_len]; exact ht]
theorem keep3 {W w9 : World} {a1 a2 a3 : Addr} {v1 v2 v3 : Value} {n : Nat} {W0 : World} (hn : n ≤ W.heap.size) (hb : Below W.heap.size W w9) (h : Below n W0 W ∧ W.cell? a1 = some v1 ∧ W.cell? a2 = some v2 ∧ W.cell? a3 = some v3) :
    Below n W0 w9 ∧ w9.cell? a1 = some v1 ∧ w9.cell? a2 = some v2 ∧ w9.cell? a3 = some v3 := ⟨bTg h.1 hb hn, keepc_rw hb h.2.1, keepc_rw hb h.2.2.1, keepc_rw hb h.2.2.2⟩

set_option maxHeartbeats 8000000 in
theorem refBlock_any (h x : List Nat) (w : World) (hh : h.length = 8) (hx : x.length = 16) (wh : W32 h) (wx : W32 x) :
    Calls Try.prog 133 #[.agg (wv h).toArray, .agg (wv x).toArray] w fun e w' => e = .returned (.agg (wv (blockN h x)).toArray) ∧ Below w.heap.size w w' := by
  obtain ⟨i0, hi, hz0, hz1, hz2⟩ := info_parts infoU32
  have HH := Lib.hid hh
  have HX := Lib.hid hx
  clear hh hx
  go_enter Try.func133, Try.ntmps133
  go_wp2_with fail
  obtain ⟨w0, hw0, a0, a1, a2, a3, az, hb0⟩ := new4 w (.cells (wv h).toArray 147) (.cells (wv x).toArray 152) (.cells (wv (List.replicate 8 0)).toArray 147) (.cells #[] 146)
  have HO0 : Hid (w0.ownsRow (w.heap.size + 1 + 1 + 1) 146 1 (.slice (some ⟨w.heap.size + 1 + 1 + 1, 0, none⟩) 0 0) (nI (schT x 0)).length ((nI (schT x 0)).map (.int .u32))) := Lib.hid (by
    have e : nI (schT x 0) = [] := by simp [nI, schT]
    have q := own_lit0 (((w.alloc (.cells (wv h).toArray 147)).alloc (.cells (wv x).toArray 152)).alloc (.cells (wv (List.replicate 8 0)).toArray 147)) 146 .u32
    rw [e, ← hw0]
    simpa only [World.size_alloc] using q)
  generalize hW0 : World.alloc _ _ = w00
  obtain rfl : w0 = w00 := by rw [← hw0, ← hW0]; kernel_rfl
  clear hW0 hw0
  have HA := Lib.hid (show w0.heap[w.heap.size]? = _ ∧ w0.heap[w.heap.size + 1]? = _ ∧ w0.heap[w.heap.size + 1 + 1]? = _ from ⟨a0, a1, a2⟩)
  have HB0 := Lib.hid hb0
  have HAZ := Lib.hid az
  clear a0 a1 a2 a3 hb0 az
  go_loopw [5, 6] (fun v i wr => ∃ t : Nat, t ≤ 64 ∧ i = .int .i64 (t : Int) ∧ Hid (wr.ownsRow (w.heap.size + 1 + 1 + 1) 146 1 v (nI (schT x t)).length ((nI (schT x t)).map (.int .u32))) ∧ Hid (Below (w.heap.size + 1 + 1 + 1) w0 wr)) (fun _ i _ => 64 - (intOf i).toNat)
  case atStart => exact ⟨0, Nat.zero_le _, rfl, HO0, Lib.hid (Below.refl _ _)⟩
  case round =>
    obtain ⟨t, ht, rfl, HO, HB⟩ := hrel
    clear HO0
    have hsz : w.heap.size + 1 + 1 + 1 ≤ wr.heap.size := by have := HB.out.size; have := HAZ.out; omega
    have hlen : (nI (schT x t)).length = t := by rw [nI_len, schT_len HX.out]
    have HLEN := Lib.hid hlen
    clear hlen
    by_cases h16 : t < 16
    · have hc := row_wv (j := t) ((HB.out.block (w.heap.size + 1) (by omega)).trans HA.out.2.1) (by rw [HX.out]; exact h16)
      have HN := Lib.hid (show nI (schT x t) ++ [((x.getD t 0 : Nat) : Int)] = nI (schT x (t + 1)) by rw [schT_lo HX.out h16]; simp [nI])
      generalize hy : x.getD t 0 = y at *
      generalize nI (schT x t) = D at *
      have HSZ := Lib.hid hsz
      clear hy
      go_wp2_with (at_builtin; go_loud (refine wpL_app (k := .u32) rfl _ _ 148 rfl (w.heap.size + 1 + 1 + 1) 146 i0 (.int .u32 0) 4 Try.underlying148 hi hz0 hz1 hz2 rfl _ D rfl (HO.out.alloc _) _ _ ([(y : Int)]) rfl (RdI.lit1 _ _ _ _) ?_ ?_ ?_ ?_; (focus (have := HLEN.out; refine maxLen_ge ?_; simp only [List.length_cons, List.length_nil]; omega)); (focus (have := HLEN.out; simp only [List.length_cons, List.length_nil]; omega)); (focus (have := HSZ.out; rw [World.size_alloc]; omega)); intro v3 w3 ho3 hg3 _; have HO3 : Hid (w3.ownsRow (w.heap.size + 1 + 1 + 1) 146 1 v3 (nI (schT x (t + 1))).length ((nI (schT x (t + 1))).map (.int .u32))) := Lib.hid (by rw [← HN.out]; exact ho3); have HB3 := Lib.hid ((HB.out.alloc HSZ.out (.cells #[.int .u32 (y : Int)] 146)).grown hg3 (by have := HSZ.out; rw [World.size_alloc]; omega) (own_ge HO.out)); clear ho3 hg3 HO HB))
      go_roundw
      case rel => exact ⟨t + 1, by omega, by go_num, HO3, HB3⟩
      case measure => simp [intOf]; omega
    · by_cases h64 : t < 64
      · obtain ⟨k, rfl⟩ : ∃ k, t = k + 16 := ⟨t - 16, by omega⟩
        obtain ⟨A, c0, rfl, _, _⟩ := own_slice HO.out
        have hrd := RdI.of_own HO.out
        have hYl := schT_len HX.out (t := k + 16)
        obtain ⟨ad, rfl, q1⟩ := hrd.at_ (j := k) (by rw [HLEN.out]; omega)
        obtain ⟨ad', ha', q2⟩ := hrd.at_ (j := k + 1) (by rw [HLEN.out]; omega)
        obtain rfl := Option.some.inj ha'
        obtain ⟨ad', ha', q3⟩ := hrd.at_ (j := k + 9) (by rw [HLEN.out]; omega)
        obtain rfl := Option.some.inj ha'
        obtain ⟨ad', ha', q4⟩ := hrd.at_ (j := k + 14) (by rw [HLEN.out]; omega)
        obtain rfl := Option.some.inj ha'
        rw [nI_at (by omega)] at q1 q2 q3 q4
        have hYw := schT_W32 wx (k + 16)
        have HNX := Lib.hid (nI_next HX.out (t := k + 16) (by omega))
        obtain ⟨c, hc⟩ : ∃ c, (schT x (k + 16)).getD k 0 = c := ⟨_, rfl⟩
        obtain ⟨a, ha⟩ : ∃ a, (schT x (k + 16)).getD (k + 1) 0 = a := ⟨_, rfl⟩
        obtain ⟨d, hd⟩ : ∃ d, (schT x (k + 16)).getD (k + 9) 0 = d := ⟨_, rfl⟩
        obtain ⟨b, hb⟩ : ∃ b, (schT x (k + 16)).getD (k + 14) 0 = b := ⟨_, rfl⟩
        have hn := next_of hYl hc ha hd hb
        have wa : a < 4294967296 := by rw [← ha]; exact W32.at_ hYw _
        have wb : b < 4294967296 := by rw [← hb]; exact W32.at_ hYw _
        rw [hc] at q1
        rw [ha] at q2
        rw [hd] at q3
        rw [hb] at q4
        have T1 : ∀ W, Calls Try.prog 151 #[.int .u32 (a : Int), .int .i64 7, .int .i64 18, .int .u32 8] W fun e w' => e = .returned (.int .u32 ((sg0 a : Nat) : Int)) ∧ Below W.heap.size W w' := fun W => refTwo_any a 7 18 8 W wa (by decide) (by decide) (by decide) (by decide)
        have T2 : ∀ W, Calls Try.prog 151 #[.int .u32 (b : Int), .int .i64 17, .int .i64 19, .int .u32 1024] W fun e w' => e = .returned (.int .u32 ((sg1 b : Nat) : Int)) ∧ Below W.heap.size W w' := fun W => refTwo_any b 17 19 1024 W wb (by decide) (by decide) (by decide) (by decide)
        generalize sg0 a = p at *
        generalize sg1 b = q at *
        obtain ⟨y1, hy1⟩ : ∃ y, y = (c + p) % 4294967296 := ⟨_, rfl⟩
        obtain ⟨y2, hy2⟩ : ∃ y, y = (y1 + d) % 4294967296 := ⟨_, rfl⟩
        obtain ⟨y3, hy3⟩ : ∃ y, y = (y2 + q) % 4294967296 := ⟨_, rfl⟩
        have Y1 : IntKind.u32.wrap ((c : Int) + (p : Int)) = (y1 : Int) := by rw [add32, hy1]
        have Y2 : IntKind.u32.wrap ((y1 : Int) + (d : Int)) = (y2 : Int) := by rw [add32, hy2]
        have Y3 : IntKind.u32.wrap ((y2 : Int) + (q : Int)) = (y3 : Int) := by rw [add32, hy3]
        rw [← hn, ← hy1, ← hy2, ← hy3] at HNX
        clear hn hy1 hy2 hy3 hc ha hd hb hYl hYw hrd
        generalize nI (schT x (k + 16)) = D at *
        have hS0 : wr.drew.cell? (ad.add k) = some (.int .u32 (c : Int)) ∧ wr.drew.cell? ⟨ad.block, ad.off + (k + 1), none⟩ = some (.int .u32 (a : Int)) ∧ wr.drew.cell? ⟨ad.block, ad.off + (k + 8 + 1), none⟩ = some (.int .u32 (d : Int)) ∧ wr.drew.cell? ⟨ad.block, ad.off + (k + 13 + 1), none⟩ = some (.int .u32 (b : Int)) := ⟨q1, by rw [← add_succ]; exact q2, by rw [← add_succ]; exact q3, by rw [← add_succ]; exact q4⟩
        have hlD : D.length = k + 16 := HLEN.out
        have n1 : ((k : Int) + 1).toNat = k + 1 := by omega
        have n14 : ((k : Int) + 14).toNat = k + 14 := by omega
        have n9 : ((k : Int) + 9).toNat = k + 9 := by omega
        have HSZ := Lib.hid hsz
        have e15 : IntKind.i64.wrap ((k : Int) + 16 - 15) = (k : Int) + 1 := by rw [show ((k : Int) + 16 - 15) = (k : Int) + 1 by omega]; exact IntWalk.i64_in _ (by omega)
        have e2 : IntKind.i64.wrap ((k : Int) + 16 - 2) = (k : Int) + 14 := by rw [show ((k : Int) + 16 - 2) = (k : Int) + 14 by omega]; exact IntWalk.i64_in _ (by omega)
        have e16 : IntKind.i64.wrap ((k : Int) + 16 - 16) = (k : Int) := by rw [show ((k : Int) + 16 - 16) = (k : Int) by omega]; exact IntWalk.i64_in _ (by omega)
        have e7 : IntKind.i64.wrap ((k : Int) + 16 - 7) = (k : Int) + 9 := by rw [show ((k : Int) + 16 - 7) = (k : Int) + 9 by omega]; exact IntWalk.i64_in _ (by omega)
        have e16' : IntKind.i64.wrap (k : Int) = (k : Int) := IntWalk.i64_in _ (by omega)
        have b1 : (0 : Int) ≤ (k : Int) + 1 := by omega
        have b14 : (0 : Int) ≤ (k : Int) + 14 := by omega
        have b9 : (0 : Int) ≤ (k : Int) + 9 := by omega
        have t1 : (k : Int) + 1 < (D.length : Int) := by omega
        have t14 : (k : Int) + 14 < (D.length : Int) := by omega
        have t9 : (k : Int) + 9 < (D.length : Int) := by omega
        have t0 : (k : Int) < (D.length : Int) := by omega
        clear q1 q2 q3 q4 hsz hlD
        go_wp2
        go_region_held3 (fun w9 => w9.cell? (ad.add k) = some (.int .u32 (c : Int)) ∧ w9.cell? ⟨ad.block, ad.off + (k + 1), none⟩ = some (.int .u32 (a : Int)) ∧ w9.cell? ⟨ad.block, ad.off + (k + 8 + 1), none⟩ = some (.int .u32 (d : Int)) ∧ w9.cell? ⟨ad.block, ad.off + (k + 13 + 1), none⟩ = some (.int .u32 (b : Int))) (first | assumption | exact cell4_keep (bel1 _ _) (by assumption)) (first
          | (go_at_call 151; (with_reducible refine (T1 _).mono ?_); rintro e w1 ⟨rfl, bb1⟩; have hS1 := cell4_keep bb1 hS0)
          | (go_at_call 151; (with_reducible refine (T2 _).mono ?_); rintro e w2 ⟨rfl, bb2⟩; have hS2 := cell4_keep bb2 hS1; have HB2 := Lib.hid (show Below wr.heap.size wr w2 from bT (bD (bR wr)) (bT bb1 bb2)))
          | ((rw [if_pos (by rfl)]; (refine wpO_appk (k := .u32) _ _ 148 rfl (w.heap.size + 1 + 1 + 1) 146 i0 (.int .u32 0) 4 Try.underlying148 hi hz0 hz1 hz2 rfl _ D rfl ((own_below HO.out HB2.out).alloc _) _ 1 (y3 : Int) rfl (cell_one_new _ _ _ 0 _ rfl) ?_ ?_ ?_ ?_; (focus (have := HLEN.out; refine maxLen_ge ?_; omega)); (focus (have := HLEN.out; omega)); (focus (have := HSZ.out; have := HB2.out.size; rw [World.size_alloc]; omega)); intro v3 w3 ho3 hg3 hk3; have hS3 := app4_keep HLEN.out hk3 (cell4_keep (bel1 _ _) hS2)))))
        have HO3 : Hid (w3.ownsRow (w.heap.size + 1 + 1 + 1) 146 1 v3 (nI (schT x (k + 16 + 1))).length ((nI (schT x (k + 16 + 1))).map (.int .u32))) := Lib.hid (by rw [← HNX.out]; exact ho3)
        have hw2 : Below (w.heap.size + 1 + 1 + 1) w0 w2 := bTg HB.out HB2.out HSZ.out
        have hs2 : w.heap.size + 1 + 1 + 1 ≤ w2.heap.size := by have := HSZ.out; have := HB2.out.size; omega
        have HB3 := Lib.hid ((hw2.alloc hs2 (.cells #[.int .u32 (y3 : Int)] 146)).grown hg3 (by rw [World.size_alloc]; omega) (own_ge HO.out))
        clear ho3 hg3 hk3 hw2 hs2
        go_wp2
        go_roundw
        case rel => exact ⟨k + 16 + 1, by omega, by go_num, HO3, HB3⟩
        case measure => simp [intOf]; omega
      · obtain rfl : t = 64 := by omega
        clear h64 h16 ht
        obtain ⟨lA, c0, rfl, hq1, hq2⟩ := own_slice HO.out
        clear hq1 hq2
        have hrd := RdI.of_own HO.out
        obtain ⟨ws, hws⟩ : ∃ ws, schT x 64 = ws := ⟨_, rfl⟩
        have hwl : ws.length = 64 := by rw [← hws]; exact schT_len HX.out
        have HWS : Hid (schedN 48 x = ws) := Lib.hid (by rw [← hws]; exact (schT_64 HX.out).symm)
        rw [hws] at hrd HO HLEN ⊢
        obtain ⟨lad, rfl, hq3⟩ := hrd.at_ (j := 0) (by rw [HLEN.out]; decide)
        clear hq3
        obtain ⟨D, hD⟩ : ∃ D, nI ws = D := ⟨_, rfl⟩
        have HDA : Hid (∀ t, t < 64 → D.getD t 0 = ((ws.getD t 0 : Nat) : Int)) := Lib.hid (fun t ht => by rw [← hD]; exact nI_at (by rw [hwl]; exact ht))
        rw [hD] at hrd HLEN HO ⊢
        have gh := (HB.out.block w.heap.size (by have := HAZ.out; omega)).trans HA.out.1
        have ga := (HB.out.block (w.heap.size + 1 + 1) (by have := HAZ.out; omega)).trans HA.out.2.2
        have HB1 := Lib.hid (bTg HB0.out HB.out (by omega))
        have HGH := Lib.hid gh
        have HGA := Lib.hid ga
        have HSZ := Lib.hid hsz
        have HRD := Lib.hid hrd
        have HWL := Lib.hid hwl
        clear gh ga hsz hrd hwl hws hD HO HB HA HAZ HB0 i0 hi hz0 hz1 hz2
        obtain ⟨wo, rfl⟩ : ∃ wo : World, wo = wr := ⟨_, rfl⟩
        go_wp2_with fail
        refine (refConst_rd _).mono ?_
        rintro e w1 ⟨kad, rfl, hkr, hb1⟩
        have hz1 := hb1.size
        have HGH1 := Lib.hid ((hb1.block w.heap.size (by have := HSZ.out; omega)).trans HGH.out)
        have HGA1 := Lib.hid ((hb1.block (w.heap.size + 1 + 1) (by have := HSZ.out; omega)).trans HGA.out)
        have HLR1 := Lib.hid (HRD.out.below hb1)
        have HKR1 := Lib.hid hkr
        have HBB1 := Lib.hid (bTg HB1.out hb1 (by have := HSZ.out; omega))
        have HZ1 := Lib.hid (show w.heap.size + 1 + 1 + 1 ≤ w1.heap.size by have := HSZ.out; omega)
        clear hkr hb1 hz1 HGH HGA HRD HB1 HSZ
        obtain ⟨w2, hw2, gv, hb2, hz2⟩ := newRow w1 (wv (List.replicate 8 0)).toArray (wv h).toArray 147
        have HGH2 := Lib.hid ((hb2.block w.heap.size (by have := HZ1.out; omega)).trans HGH1.out)
        have HGA2 := Lib.hid ((hb2.block (w.heap.size + 1 + 1) (by have := HZ1.out; omega)).trans HGA1.out)
        have HLR2 := Lib.hid (HLR1.out.below hb2)
        have HKR2 := Lib.hid (HKR1.out.below hb2)
        have HBB2 := Lib.hid (bTg HBB1.out hb2 (by have := HZ1.out; omega))
        have HW2 := Lib.hid hw2
        have HGV := Lib.hid gv
        have HZ2 := Lib.hid hz2
        clear hw2 gv hz2 hb2
        go_wp2_with (first | (refine wpList_load_row rfl 147 (.tmp 2) rfl w.heap.size rfl 147 (wv h).toArray (0, 0) _ HGH1.out Try.underlying147 rfl (by rw [List.size_toArray, wv_len, HH.out]; exact info8) ?_) | (refine wpList_store_row rfl 147 _ _ rfl w1.heap.size (wv h).toArray rfl rfl 147 _ (heap_alloc_new w1 _) (by rw [List.size_toArray, wv_len, HH.out]; exact info8) (show 8 = (wv h).toArray.size by rw [List.size_toArray, wv_len, HH.out]) (all_one (wv_one _)) ?_; generalize hW2 : World.setRow _ _ _ = w22; obtain rfl : w2 = w22 := (by rw [← HW2.out, ← hW2]; kernel_rfl)))
        go_loopw [9] (fun i wq => ∃ t : Nat, t ≤ 64 ∧ i = .int .i64 (t : Int) ∧ Hid (wq.heap[w1.heap.size]? = some (.cells (wv (rndsN (kN.take t) (ws.take t) h)).toArray 147 (0, 0))) ∧ Below w1.heap.size w2 wq) (fun i _ => 64 - (intOf i).toNat)
        case atStart => exact ⟨0, Nat.zero_le _, rfl, HGV, Below.refl _ _⟩
        case round =>
          obtain ⟨t, ht, rfl, hg, hbq⟩ := hrel
          by_cases hlt : t < 64
          · obtain ⟨V, hV⟩ : ∃ V, rndsN (kN.take t) (ws.take t) h = V := ⟨_, rfl⟩
            have hVl : V.length = 8 := by rw [← hV]; exact rnds_len HH.out
            have hVw : W32 V := by rw [← hV]; exact rnds_W32 wh
            rw [hV] at hg
            have l0 := hVw.at_ 0
            have l1 := hVw.at_ 1
            have l2 := hVw.at_ 2
            have l4 := hVw.at_ 4
            have l5 := hVw.at_ 5
            have l6 := hVw.at_ 6
            have HV := Lib.hid hV
            have HVL := Lib.hid hVl
            have hlr : RdI wr .u32 (some lad) D := by
              have hzq := hbq.size
              have hz2 := HZ2.out
              rcases HLR1.out with h0 | ⟨a, ha, hal, hac⟩
              · exact .inl h0
              · refine .inr ⟨a, ha, by omega, fun j hj => ?_⟩
                obtain ⟨a2, ha2, q⟩ := HLR2.out.at_ hj
                obtain rfl := Option.some.inj (ha.symm.trans ha2)
                exact (hbq.cell (by rw [add_block]; exact hal)).trans q
            have hkr : RdI wr .u32 (some kad) kI := by
              have hzq := hbq.size
              have hz2 := HZ2.out
              rcases HKR1.out with h0 | ⟨a, ha, hal, hac⟩
              · exact .inl h0
              · refine .inr ⟨a, ha, by omega, fun j hj => ?_⟩
                obtain ⟨a2, ha2, q⟩ := HKR2.out.at_ hj
                obtain rfl := Option.some.inj (ha.symm.trans ha2)
                exact (hbq.cell (by rw [add_block]; exact hal)).trans q
            obtain ⟨ad', ha', cw⟩ := hlr.at_ (j := t) (by rw [HLEN.out]; exact hlt)
            obtain rfl := Option.some.inj ha'
            obtain ⟨ad', ha', ck⟩ := hkr.at_ (j := t) (by unfold kI; rw [List.length_map, k_len]; exact hlt)
            obtain rfl := Option.some.inj ha'
            rw [HDA.out t hlt] at cw
            clear hV hVl hVw ha' hlr hkr
            obtain ⟨va, hva⟩ : ∃ y, V.getD 0 0 = y := ⟨_, rfl⟩
            obtain ⟨vb, hvb⟩ : ∃ y, V.getD 1 0 = y := ⟨_, rfl⟩
            obtain ⟨vc, hvc⟩ : ∃ y, V.getD 2 0 = y := ⟨_, rfl⟩
            obtain ⟨vd, hvd⟩ : ∃ y, V.getD 3 0 = y := ⟨_, rfl⟩
            obtain ⟨ve, hve⟩ : ∃ y, V.getD 4 0 = y := ⟨_, rfl⟩
            obtain ⟨vf, hvf⟩ : ∃ y, V.getD 5 0 = y := ⟨_, rfl⟩
            obtain ⟨vg, hvg⟩ : ∃ y, V.getD 6 0 = y := ⟨_, rfl⟩
            obtain ⟨vh, hvh⟩ : ∃ y, V.getD 7 0 = y := ⟨_, rfl⟩
            obtain ⟨wt, hwt⟩ : ∃ y, ws.getD t 0 = y := ⟨_, rfl⟩
            obtain ⟨kt, hkt⟩ : ∃ y, kN.getD t 0 = y := ⟨_, rfl⟩
            rw [kI_at hlt hkt] at ck
            rw [hwt] at cw
            rw [hva] at l0
            rw [hvb] at l1
            rw [hvc] at l2
            rw [hve] at l4
            rw [hvf] at l5
            rw [hvg] at l6
            have HT1 : Hid (t1N V kt wt = ((((vh + bs1 ve) % 4294967296 + chN ve vf vg) % 4294967296 + kt) % 4294967296 + wt) % 4294967296) := Lib.hid (by unfold t1N; rw [hvh, hve, hvf, hvg])
            have HT2 : Hid (t2N V = (bs0 va + majN va vb vc) % 4294967296) := Lib.hid (by unfold t2N; rw [hva, hvb, hvc])
            have HRN : Hid (rndN V kt wt = [(t1N V kt wt + t2N V) % 4294967296, va, vb, vc, (vd + t1N V kt wt) % 4294967296, ve, vf, vg]) := Lib.hid (by unfold rndN; rw [hva, hvb, hvc, hvd, hve, hvf, hvg])
            have hcs : ∀ W : World, W.heap[w1.heap.size]? = some (.cells (wv V).toArray 147 (0, 0)) → (W.cell? ⟨w1.heap.size, 0, none⟩ = some (.int .u32 (va : Int)) ∧ W.cell? ⟨w1.heap.size, 1, none⟩ = some (.int .u32 (vb : Int)) ∧ W.cell? ⟨w1.heap.size, 2, none⟩ = some (.int .u32 (vc : Int)) ∧ W.cell? ⟨w1.heap.size, 3, none⟩ = some (.int .u32 (vd : Int)) ∧ W.cell? ⟨w1.heap.size, 4, none⟩ = some (.int .u32 (ve : Int)) ∧ W.cell? ⟨w1.heap.size, 5, none⟩ = some (.int .u32 (vf : Int)) ∧ W.cell? ⟨w1.heap.size, 6, none⟩ = some (.int .u32 (vg : Int)) ∧ W.cell? ⟨w1.heap.size, 7, none⟩ = some (.int .u32 (vh : Int))) := by
              intro W hW
              rw [← hva, ← hvb, ← hvc, ← hvd, ← hve, ← hvf, ← hvg, ← hvh]
              have hl := HVL.out
              exact ⟨row_wv hW (by omega), row_wv hW (by omega), row_wv hW (by omega), row_wv hW (by omega), row_wv hW (by omega), row_wv hW (by omega), row_wv hW (by omega), row_wv hW (by omega)⟩
            have HCS := Lib.hid hcs
            have HKT := Lib.hid hkt
            have HWT := Lib.hid hwt
            clear hva hvb hvc hvd hve hvf hvg hvh hwt hkt hcs
            have T1 : ∀ W, Calls Try.prog 153 #[.int .u32 (ve : Int), .int .i64 6, .int .i64 11, .int .i64 25] W fun e w' => e = .returned (.int .u32 ((bs1 ve : Nat) : Int)) ∧ W = w' := fun W => refThree_any ve 6 11 25 W l4 (by decide) (by decide) (by decide)
            have T2 : ∀ W, Calls Try.prog 154 #[.int .u32 (ve : Int), .int .u32 (vf : Int), .int .u32 (vg : Int)] W fun e w' => e = .returned (.int .u32 ((chN ve vf vg : Nat) : Int)) ∧ W = w' := fun W => refPick_any ve vf vg W l4 l5 l6
            have T3 : ∀ W, Calls Try.prog 153 #[.int .u32 (va : Int), .int .i64 2, .int .i64 13, .int .i64 22] W fun e w' => e = .returned (.int .u32 ((bs0 va : Nat) : Int)) ∧ W = w' := fun W => refThree_any va 2 13 22 W l0 (by decide) (by decide) (by decide)
            have T4 : ∀ W, Calls Try.prog 155 #[.int .u32 (va : Int), .int .u32 (vb : Int), .int .u32 (vc : Int)] W fun e w' => e = .returned (.int .u32 ((majN va vb vc : Nat) : Int)) ∧ Below W.heap.size W w' := fun W => refMost_any va vb vc W l0 l1 l2
            generalize bs1 ve = p1 at *
            generalize chN ve vf vg = p2 at *
            generalize bs0 va = p3 at *
            generalize majN va vb vc = p4 at *
            obtain ⟨z1, hz1⟩ : ∃ y, y = (vh + p1) % 4294967296 := ⟨_, rfl⟩
            obtain ⟨z2, hz2⟩ : ∃ y, y = (z1 + p2) % 4294967296 := ⟨_, rfl⟩
            obtain ⟨z3, hz3⟩ : ∃ y, y = (z2 + kt) % 4294967296 := ⟨_, rfl⟩
            obtain ⟨t1, ht1⟩ : ∃ y, y = (z3 + wt) % 4294967296 := ⟨_, rfl⟩
            obtain ⟨t2, ht2⟩ : ∃ y, y = (p3 + p4) % 4294967296 := ⟨_, rfl⟩
            obtain ⟨n0, hn0⟩ : ∃ y, y = (t1 + t2) % 4294967296 := ⟨_, rfl⟩
            obtain ⟨n4, hn4⟩ : ∃ y, y = (vd + t1) % 4294967296 := ⟨_, rfl⟩
            have A1 : IntKind.u32.wrap ((vh : Int) + (p1 : Int)) = (z1 : Int) := by rw [add32, hz1]
            have A2 : IntKind.u32.wrap ((z1 : Int) + (p2 : Int)) = (z2 : Int) := by rw [add32, hz2]
            have A3 : IntKind.u32.wrap ((z2 : Int) + (kt : Int)) = (z3 : Int) := by rw [add32, hz3]
            have A4 : IntKind.u32.wrap ((z3 : Int) + (wt : Int)) = (t1 : Int) := by rw [add32, ht1]
            have A5 : IntKind.u32.wrap ((p3 : Int) + (p4 : Int)) = (t2 : Int) := by rw [add32, ht2]
            have A6 : IntKind.u32.wrap ((t1 : Int) + (t2 : Int)) = (n0 : Int) := by rw [add32, hn0]
            have A7 : IntKind.u32.wrap ((vd : Int) + (t1 : Int)) = (n4 : Int) := by rw [add32, hn4]
            have HN : Hid (rndN V kt wt = [n0, va, vb, vc, n4, ve, vf, vg]) := Lib.hid (by rw [HRN.out, HT1.out, HT2.out, hn0, hn4, ht2, ht1, hz3, hz2, hz1])
            clear hz1 hz2 hz3 ht1 ht2 hn0 hn4 HRN HT1 HT2 l0 l1 l2 l4 l5 l6
            have hlD : (t : Int) < (D.length : Int) := by have := HLEN.out; omega
            have hl64 : (t : Int) < 64 := by omega
            have HBQ := Lib.hid hbq
            have hc := HCS.out _ hg.out
            have hS : wr.cell? ⟨w1.heap.size, 4, none⟩ = some (.int .u32 (ve : Int)) ∧ wr.cell? ⟨w1.heap.size, 5, none⟩ = some (.int .u32 (vf : Int)) ∧ wr.cell? ⟨w1.heap.size, 6, none⟩ = some (.int .u32 (vg : Int)) ∧ wr.cell? ⟨w1.heap.size, 7, none⟩ = some (.int .u32 (vh : Int)) ∧ wr.cell? (kad.add t) = some (.int .u32 (kt : Int)) ∧ wr.cell? (lad.add t) = some (.int .u32 (wt : Int)) := ⟨hc.2.2.2.2.1, hc.2.2.2.2.2.1, hc.2.2.2.2.2.2.1, hc.2.2.2.2.2.2.2, ck, cw⟩
            clear hc ck cw hbq
            go_wp2
            go_quiet ((first | (go_at_call 153; exact Calls.quiet_of_same ((T1 _).mono fun e w' h => ⟨h.1, h.2.symm⟩)) | (go_at_call 154; exact Calls.quiet_of_same ((T2 _).mono fun e w' h => ⟨h.1, h.2.symm⟩))))
            go_wp2
            obtain ⟨wq, hwq⟩ : ∃ wq, wr.drewN nq = wq := ⟨_, rfl⟩
            have hgq : wq.heap[w1.heap.size]? = some (.cells (wv V).toArray 147 (0, 0)) := by rw [← hwq]; exact hg.out
            have hbq2 : Below w1.heap.size w2 wq := by rw [← hwq]; exact bNg HBQ.out _
            have hqz : w1.heap.size < wq.heap.size := (Array.getElem?_eq_some_iff.1 hgq).1
            have hc2 := HCS.out _ hgq
            have hS2 : Below w1.heap.size w2 wq ∧ wq.cell? ⟨w1.heap.size, 0, none⟩ = some (.int .u32 (va : Int)) ∧ wq.cell? ⟨w1.heap.size, 1, none⟩ = some (.int .u32 (vb : Int)) ∧ wq.cell? ⟨w1.heap.size, 2, none⟩ = some (.int .u32 (vc : Int)) := ⟨hbq2, hc2.1, hc2.2.1, hc2.2.2.1⟩
            have HGQ := Lib.hid hgq
            rw [hwq]
            clear hwq hgq hg hbq2 HBQ hc2 hS T1 T2 hlD hl64
            go_region_held3 (fun w9 => Below w1.heap.size w2 w9 ∧ w9.cell? ⟨w1.heap.size, 0, none⟩ = some (.int .u32 (va : Int)) ∧ w9.cell? ⟨w1.heap.size, 1, none⟩ = some (.int .u32 (vb : Int)) ∧ w9.cell? ⟨w1.heap.size, 2, none⟩ = some (.int .u32 (vc : Int))) (first | assumption | exact ⟨hS2.1.drew, hS2.2⟩ | exact keep3 (W := wq.drew) (Nat.le_of_lt hqz) (by assumption) ⟨hS2.1.drew, hS2.2⟩)
              (first | (go_at_call 153; (with_reducible refine (T3 _).mono ?_); rintro e w' ⟨rfl, rfl⟩) | (go_at_call 155; (with_reducible refine (T4 _).mono ?_); rintro e w5 ⟨rfl, hb5⟩))
            have hg5 := (hb5.block w1.heap.size hqz).trans HGQ.out
            have hb6 : Below w1.heap.size w2 w5 := bTg (show Below w1.heap.size w2 wq.drew from hS2.1.drew) hb5 (Nat.le_of_lt hqz)
            have HB6 := Lib.hid hb6
            have HG5 := Lib.hid hg5
            obtain ⟨c0', c1', c2', c3', c4', c5', c6', c7'⟩ := HCS.out _ hg5
            clear hg5 hb6 hb5 hS2 hqz T3 T4
            go_wp2_with (refine wpList_store_row rfl 147 _ _ rfl w1.heap.size (wv [n0, va, vb, vc, n4, ve, vf, vg]).toArray rfl rfl 147 _ HG5.out ?_ ?_ (all_one (wv_one _)) ?_; (focus (kernel_rfl)); (focus (rw [List.size_toArray, wv_len, HVL.out]; rfl)))
            go_roundw
            case rel => exact ⟨t + 1, by omega, by go_num, Lib.hid (by rw [rnds_snoc (by rw [k_len]; omega) (by rw [HWL.out]; omega), HV.out, HKT.out, HWT.out, HN.out]; exact setRow_heap _ _ _ _ _ _ HG5.out), setRow_below HB6.out (Nat.le_refl _)⟩
            case measure => simp [intOf]; omega
          · obtain rfl : t = 64 := by omega
            rw [List.take_of_length_le (show kN.length ≤ 64 by rw [k_len]; exact Nat.le_refl _), List.take_of_length_le (show ws.length ≤ 64 by rw [HWL.out]; exact Nat.le_refl _)] at hg
            obtain ⟨V, hV⟩ : ∃ V, rndsN kN ws h = V := ⟨_, rfl⟩
            have hVl : V.length = 8 := by rw [← hV]; exact rnds_len HH.out
            rw [hV] at hg
            have HV := Lib.hid hV
            have HVL := Lib.hid hVl
            have HG3 := Lib.hid hg
            have hz1' := HZ1.out
            have hz2' := HZ2.out
            have gh3 := (hbq.block w.heap.size (by omega)).trans HGH2.out
            have ga3 := (hbq.block (w.heap.size + 1 + 1) (by omega)).trans HGA2.out
            have HBB := Lib.hid (bTg HBB2.out hbq (by omega))
            have hn8 := HZ1.out
            have HGA3 := Lib.hid ga3
            clear hV hVl hg ga3 hz1' hz2' hbq hlt ht
            obtain ⟨w3, rfl⟩ : ∃ w3 : World, w3 = wr := ⟨_, rfl⟩
            simp only [Int.cast_ofNat_Int]
            go_wp2
            go_loopw [12] (fun i wq => ∃ t : Nat, t ≤ 8 ∧ i = .int .i64 (t : Int) ∧ Hid (wq.heap[w1.heap.size]? = some (.cells (wv (addN (V.take t) (h.take t) ++ V.drop t)).toArray 147 (0, 0))) ∧ Below w1.heap.size w3 wq) (fun i _ => 8 - (intOf i).toNat)
            case atStart => exact ⟨0, Nat.zero_le _, rfl, Lib.hid (by have h := HG3.out.out; simpa [addN] using h), Below.refl _ _⟩
            case round =>
              obtain ⟨t, ht, rfl, hg, hb4⟩ := hrel
              by_cases hlt : t < 8
              · have cv := row_wv (j := t) hg.out (by rw [addJ_len HVL.out HH.out (by omega)]; omega)
                rw [addJ_at HVL.out HH.out hlt] at cv
                have ch := row_wv (j := t) ((hb4.block _ (by omega)).trans gh3) (by rw [HH.out]; omega)
                have fz := row_free hg.out
                obtain ⟨x1, hx1⟩ : ∃ y, V.getD t 0 = y := ⟨_, rfl⟩
                obtain ⟨x2, hx2⟩ : ∃ y, h.getD t 0 = y := ⟨_, rfl⟩
                rw [hx1] at cv
                rw [hx2] at ch
                obtain ⟨x3, hx3⟩ : ∃ y, (x1 + x2) % 4294967296 = y := ⟨_, rfl⟩
                have A1 : IntKind.u32.wrap ((x1 : Int) + (x2 : Int)) = (x3 : Int) := by rw [add32, hx3]
                have HX3 : Hid (x3 = (V.getD t 0 + h.getD t 0) % 4294967296) := Lib.hid (by rw [hx1, hx2, hx3])
                clear hx1 hx2 hx3
                have d1 : ((t : Int) < 8) := by omega
                go_wp2
                go_region
                go_wp2
                go_roundw
                case rel => exact ⟨t + 1, by omega, by go_num, Lib.hid (by rw [← addJ HVL.out HH.out hlt, ← HX3.out]; exact row_wset t x3 hg.out), bSg (bDg hb4) (Nat.le_refl _) _⟩
                case measure => simp [intOf]; omega
              · obtain rfl : t = 8 := by omega
                have hg' := hg.out
                rw [List.take_of_length_le (by rw [HVL.out]; exact Nat.le_refl _), List.take_of_length_le (by rw [HH.out]; exact Nat.le_refl _), List.drop_eq_nil_of_le (by rw [HVL.out]; exact Nat.le_refl _), List.append_nil] at hg'
                have hbl : Hid (addN V h = blockN h x) := Lib.hid (by unfold blockN; rw [HWS.out, HV.out])
                rw [hbl.out] at hg'
                obtain ⟨B, hB⟩ : ∃ B, blockN h x = B := ⟨_, rfl⟩
                have hBl : B.length = 8 := by rw [← hB]; exact block_len HH.out
                rw [hB] at hg'
                have HBL := Lib.hid hBl
                have HGB := Lib.hid hg'
                have HB := Lib.hid hB
                have gr : wr.heap[w.heap.size + 1 + 1]? = some (.cells (wv (List.replicate 8 0)).toArray 147 (0, 0)) := (hb4.block _ (by omega)).trans HGA3.out
                have HBE := Lib.hid (bTg HBB.out hb4 (by omega))
                clear hg hg' hbl hB hBl
                simp only [Int.cast_ofNat_Int]
                go_wp2_with (first | (refine wpList_load_row rfl 147 (.tmp 8) rfl w1.heap.size rfl 147 (wv B).toArray (0, 0) _ HGB.out Try.underlying147 rfl ?_ ?_; (focus (rw [List.size_toArray, wv_len, HBL.out]; exact info8))) | (refine wpList_store_row rfl 147 (.tmp 4) _ rfl (w.heap.size + 1 + 1) (wv B).toArray rfl rfl 147 _ gr ?_ ?_ (all_one (wv_one _)) ?_; (focus (rw [List.size_toArray, wv_len, HBL.out]; exact info8)); (focus (rw [List.size_toArray, wv_len, List.size_toArray, wv_len, HBL.out]; rfl))))
                refine bodyPost_ret (v := .agg (wv B).toArray) (results_cell_row rfl _ _ (w.heap.size + 1 + 1) 147 (wv B).toArray (0, 0) _ rfl (setRow_heap _ _ _ _ _ _ gr) Try.underlying147 rfl (by rw [List.size_toArray, wv_len, HBL.out]; exact info8)) rfl ⟨by rw [← HB.out], setRow_below HBE.out (by omega)⟩
end Go.Proofs.Ytachkhjbckapoaa

namespace Go.Proofs.Ytachkhjbckapoaa
open Go.RowKit
set_option linter.unusedVariables false
set_option maxRecDepth 100000
set_option linter.unusedSimpArgs false

theorem zeros_list (z : Value) (hz : z.cells = #[z]) (k : Nat) : (Builtin.zeroCells z.cells k) = (List.replicate k z).toArray := by
  apply Array.ext'
  rw [hz]
  apply List.ext_getElem
  · simp [Builtin.zeroCells]
  · intro i h1 h2
    simp [Builtin.zeroCells, Nat.mod_one]
theorem run_append_zeros {P : Program} (w : World) (base : Nat) (t tn ty e : TypeId) (i : TypeInfo) (z : Value) (kq kn : IntKind) (bytes : Nat) (ht : P.underlying t = some (.slice e)) (htn : P.underlying tn = some (.int kn)) (hi : P.info? e = some i) (hz : i.zero = some z)
    (hsize : i.size = 1) (hby : i.bytes = bytes) (hzs : z.cells = #[z]) (h1 : z.oneCell' = true)
    (v : Value) (n : Nat) (xs : List Value) (hown : w.ownsRow base e 1 v n xs) (k : Nat)
    (h63 : n + k ≤ maxLen) (hbytes : (n + k) * bytes ≤ 140737488355328) (hbase : base ≤ w.heap.size) :
    ∃ v' w', (Builtin.append_ #[t, tn] ty #[v, .int kq k]).run P w = .ok v' w' ∧ w'.ownsRow base e 1 v' (n + k) (xs ++ List.replicate k z) ∧ w.grownBy w' v.ownBlock ∧ (v'.ownBlock = v.ownBlock ∨ v'.ownBlock = some w.heap.size) := by
  subst hby
  have hsmall : n + k ≤ 9223372036854775807 := by simp only [maxLen] at h63; omega
  have hx : xs.length = n := by simpa using hown.1
  by_cases hk : 0 < k
  rotate_left
  · obtain rfl : k = 0 := by omega
    have hw0 : IntKind.i64.wrap 0 = 0 := by decide
    refine ⟨v, w, ?_, by simpa using hown, World.grownBy.refl w _, .inl rfl⟩
    rcases hown.2 with ⟨rfl, rfl⟩ | ⟨g, cap, cur, rfl, _, _, hnc, _⟩
    · simp [Builtin.append_, run_underlying ht, run_underlying htn, sizeOf, typeInfo, hi, asInt, asIntOf, hw0]
    · simp [Builtin.append_, run_underlying ht, run_underlying htn, sizeOf, typeInfo, hi, asInt, asIntOf, hw0, hnc, storeCells]
  have hgrow : ∀ (bs : Option Addr) (cap : Nat) (b : Option Nat), v = .slice bs n cap → (Builtin.firstCells i.size n (.slice bs n cap)).run P w.drew = .ok xs.toArray w.drew → ¬ n + k ≤ cap → (n + k) * i.bytes ≤ 140737488355328 →
      ∃ v' w', (Builtin.append_ #[t, tn] ty #[v, .int kq k]).run P w = .ok v' w' ∧ w'.ownsRow base e 1 v' (n + k) (xs ++ List.replicate k z) ∧ w.grownBy w' b ∧ (v'.ownBlock = b ∨ v'.ownBlock = some w.heap.size) := by
    intro bs cap b hv hold hn hb
    have hm : k * i.bytes ≤ (n + k) * i.bytes := Nat.mul_le_mul_right _ (by omega)
    have hr := Lib.run_append_grow_zeros (P := P) w t tn ty e i z kq kn ht htn hi hz bs n cap xs hold k hk (by omega) (by omega) (by omega) (by omega) (growslice_fits (by omega) hb)
    rw [← hv] at hr
    have hge := grownCap_ge w (n + k) cap e
    have hcm : grownCap w (n + k) cap e ≤ maxLen := grownCap_le_maxLen w (n + k) cap e h63
    refine ⟨_, _, hr, ⟨by simp [hx], .inr ⟨w.heap.size, _, _, rfl, hbase, heap_alloc_new w.drew _, hge, hcm, ?_, ?_⟩⟩, ⟨rfl, rfl, rfl, by simp, fun j hj _ => _root_.Go.heap_alloc_old w.drew _ hj⟩, .inr rfl⟩
    · rw [zeros_list z hzs, zeros_list z hzs]
      simp [hx]; omega
    · rw [zeros_list z hzs, zeros_list z hzs]
      simp only [Array.toList_append]
      rw [show (n + k) * 1 = (xs ++ List.replicate k z).length by simp [hx]]
      exact List.take_left
  rcases hown.2 with ⟨rfl, rfl⟩ | ⟨g, cap, cur, rfl, hbg, hg, hnc, hcm, hcs, htake⟩
  · obtain rfl : xs = [] := List.eq_nil_of_length_eq_zero hx
    exact hgrow none 0 _ rfl (by simp [Builtin.firstCells, loadCells, loadCellsFrom]) (by omega) hbytes
  · by_cases hroom : n + k ≤ cap
    · have hw : IntKind.i64.wrap (k : Int) = k := by rw [IntKind.wrap_i64]; omega
      have hneg : ¬ ((k : Int) < 0) := by omega
      have h48i : ¬ (281474976710656 < (k : Int) * (i.bytes : Int)) := by
        rw [← Int.natCast_mul]
        have hm : k * i.bytes ≤ (n + k) * i.bytes := Nat.mul_le_mul_right _ (by omega)
        omega
      have hns : ¬ (k * i.size = 0) := Nat.mul_ne_zero (by omega) (by omega)
      have hlen : (List.replicate k z).length = k := by simp
      have hst := run_storeCells_at P g (n * 1) e (List.replicate k z) 0 cur w hg (by simp; omega) (fun u hu => by rw [List.eq_of_mem_replicate hu]; exact h1)
      simp only [Nat.add_zero, Nat.mul_one] at hst
      have hr : (Builtin.append_ #[t, tn] ty #[.slice (some ⟨g, 0, none⟩) n cap, .int kq k]).run P w = .ok (.slice (some ⟨g, 0, none⟩) (n + k) cap) (w.setRow g (cur.toList.take n ++ List.replicate k z ++ cur.toList.drop (n + k)).toArray) := by
        simp [Builtin.append_, run_underlying ht, run_underlying htn, sizeOf, typeInfo, zeroValue, hi, hz, asInt, asIntOf, hw, hneg, hns, h48i, hroom, hsize, show ¬ k = 0 by omega, zeros_list z hzs, Addr.add_lit, hst, Question.forced]
      refine ⟨_, _, hr, ⟨by simp [hx], .inr ⟨g, cap, _, rfl, hbg, setRow_heap w g cur _ e _ hg, hroom, hcm, ?_, ?_⟩⟩, ⟨rfl, rfl, rfl, by simp, fun j _ hj => setRow_other w g j _ (fun e => hj (by simp [Value.ownBlock, e]))⟩, Or.inl rfl⟩
      · simp only [List.size_toArray, List.length_append, List.length_take, List.length_drop, Array.length_toList, List.length_replicate]
        omega
      · rw [Nat.mul_one] at htake
        rw [htake]
        rw [show (n + k) * 1 = (xs ++ List.replicate k z).length by simp [hx]]
        exact List.take_left
    · have holds : ∀ j u, xs[j]? = some u → w.cell? ((⟨g, 0, none⟩ : Addr).add j) = some u := hown.cells (g := g) rfl
      refine hgrow (some ⟨g, 0, none⟩) cap (some g) rfl ?_ hroom hbytes
      have := _root_.Go.run_firstCells_some (P := P) w.drew i.size n ⟨g, 0, none⟩ n cap xs (by rw [hsize, hx, Nat.mul_one]) (fun j u h => by exact holds j u h)
      exact this

/-- append(v, make([]T, k)...), v a row of the call's own. -/
theorem wpL_appz {P : Program} {w : World} {ops : Array Oper} {rest : List Oper} {o : Oper} {a : Act} {Q : Exit → Act → World → Prop} {k : IntKind} (hgd : o.guard = none) (s x : Operand) (t tn : TypeId)
    (ho : o.op = .call { callee := .builtin .append, args := #[s, x], argTypes := #[t, tn] })
    (base : Nat) (e : TypeId) (i : TypeInfo) (bytes : Nat) (kn : IntKind) (ht : P.underlying t = some (.slice e)) (htn : P.underlying tn = some (.int kn)) (hi : P.info? e = some i) (hz : i.zero = some (.int k 0))
    (hsize : i.size = 1) (hby : i.bytes = bytes)
    (v : Value) (xs : List Int) (hs : a.eval s = v) (hown : w.ownsRow base e 1 v xs.length (xs.map (.int k)))
    (m : Nat) (kq : IntKind) (M : Int) (hx : a.eval x = .int kq M) (hM : M = (m : Int))
    (h63 : xs.length + m ≤ maxLen) (hbytes : (xs.length + m) * bytes ≤ 140737488355328) (hbase : base ≤ w.heap.size)
    (h : ∀ v' w', w'.ownsRow base e 1 v' (xs ++ List.replicate m 0).length ((xs ++ List.replicate m 0).map (.int k)) → w.grownBy w' v.ownBlock → (v'.ownBlock = v.ownBlock ∨ v'.ownBlock = some w.heap.size) → wpList P ops Q rest (a.put o.dst v') w') :
    wpList P ops Q (o :: rest) a w := by
  subst hM
  refine wpList_plain hgd fun K hK => ?_
  obtain ⟨v', w', hr, h2, h3, h4⟩ := run_append_zeros (P := P) w base t tn o.type e i (.int k 0) kq kn bytes ht htn hi hz hsize hby rfl rfl v xs.length _ hown m h63 hbytes hbase
  unfold Oper.wp execOp
  simp only [ho, resolve, invoke, builtin, Sem.run_bind, Sem.run_pure, Result.andThen_ok, List.map_toArray, List.map_cons, List.map_nil, hs, hx, hr]
  exact hK _ _ (h v' w' (by simpa using h2) h3 h4)
end Go.Proofs.Ytachkhjbckapoaa

namespace Go.Proofs.Ytachkhjbckapoaa
open Go.RowKit
set_option linter.unusedVariables false
set_option maxRecDepth 100000
set_option linter.unusedSimpArgs false

def zerosN (n : Nat) : Nat := (119 - n % 64) % 64
def padN (l : List Int) : List Int := l ++ [128] ++ List.replicate (zerosN l.length) 0 ++ bytesN [8 * l.length / 4294967296 % 4294967296, 8 * l.length % 4294967296]
theorem padN_len (l : List Int) : (padN l).length % 64 = 0 ∧ (padN l).length ≤ l.length + 72 := by
  unfold padN zerosN
  simp only [List.length_append, List.length_cons, List.length_nil, List.length_replicate, bytesN_len]
  omega
theorem padN_byte {l : List Int} (h : ∀ x ∈ l, 0 ≤ x ∧ x < 256) : ∀ x ∈ padN l, 0 ≤ x ∧ x < 256 := by
  intro x hx
  unfold padN at hx
  simp only [List.mem_append] at hx
  rcases hx with ((hx | hx) | hx) | hx
  · exact h x hx
  · simp at hx; subst hx; omega
  · rw [List.eq_of_mem_replicate hx]; omega
  · refine bytesN_byte _ ?_ x hx
    intro y hy
    simp at hy
    omega

theorem clone_any (A : Option Addr) (c : Nat) (l : List Int) (w : World) (hr : RdI w .u8 A l) (hl : l.length ≤ 140737488355000) :
    Calls Try.prog 148 #[.slice A l.length c] w fun e w' => ∃ v, e = .returned v ∧ w'.ownsRow w.heap.size 5 1 v l.length (l.map (.int .u8)) ∧ Below w.heap.size w w' := by
  obtain ⟨i0, hi, hz0, hz1, hz2⟩ := info_parts infoB8
  have hn := fun W : World => Lib.run_eql_slice_nil (P := Try.prog) W 30 5 A l.length c 0 0 Try.underlying30
  cases A with
  | none =>
    have hz : l = [] := by
      rcases hr with h | ⟨ad, h, _⟩
      · exact h
      · cases h
    subst hz
    have hn2 := fun W : World => Lib.run_eql_slice_nil (P := Try.prog) W 30 5 none 0 c 0 0 Try.underlying30
    simp only [List.length_nil]
    go_enter Try.func148, Try.ntmps148
    go_wp2
    go_ret
    exact ⟨_, rfl, World.ownsRow_nil _ _ _ _, bR _⟩
  | some ad =>
    go_enter Try.func148, Try.ntmps148
    go_wp2_with (at_builtin; refine wpL_app (k := .u8) rfl _ _ 30 rfl w.heap.size 5 i0 (.int .u8 0) 1 Try.underlying30 hi hz0 hz1 hz2 rfl _ ([]) rfl (own_lit0 _ _ _) _ _ (l) rfl (hr.below (bel1 _ _)) ?_ ?_ ?_ ?_; (focus (unfold maxLen; simp; omega)); (focus ((simp; omega))); (focus (first | (simp; done) | (simp; omega))); intro v2 w2 ho2 hg2 _)
    have h2 := bG (bel1 w _) hg2 (fun k h => by have := ob_slice h; omega)
    have HO2 := Lib.hid ho2
    clear hg2 ho2
    go_wp2
    go_ret
    exact ⟨_, rfl, by have h := HO2.out; simpa using h, h2⟩

set_option maxHeartbeats 4000000 in
theorem pad_any (A : Option Addr) (c : Nat) (l : List Int) (w : World) (hr : RdI w .u8 A l) (hl : l.length ≤ 70368744177664) :
    Calls Try.prog 126 #[.slice A l.length c] w fun e w' => ∃ v, e = .returned v ∧ w'.ownsRow w.heap.size 5 1 v (padN l).length ((padN l).map (.int .u8)) ∧ Below w.heap.size w w' := by
  obtain ⟨i0, hi, hz0, hz1, hz2⟩ := info_parts infoB8
  have d1 : (l.length : Int) % 64 = ((l.length % 64 : Nat) : Int) := by simp
  obtain ⟨r, hr0⟩ : ∃ r, l.length % 64 = r := ⟨_, rfl⟩
  obtain ⟨z, hz⟩ : ∃ z, (119 - r) % 64 = z := ⟨_, rfl⟩
  rw [hr0] at d1
  have hrl : r < 64 := by omega
  have hzl : z < 64 := by omega
  have d2 : (119 - (r : Int)) % 64 = (z : Int) := by omega
  have d3 : IntKind.u64.wrap (l.length : Int) = (l.length : Int) := by rw [IntKind.wrap_u64]; omega
  have d4 : IntKind.u64.wrap ((l.length : Int) * 8) = 8 * (l.length : Int) := by rw [IntKind.wrap_u64]; omega
  have HZ : Hid (zerosN l.length = z) := Lib.hid (by unfold zerosN; rw [hr0, hz])
  clear hz hr0
  go_enter Try.func126, Try.ntmps126
  go_wp2_with fail
  refine (clone_any A c l w hr (by omega)).mono ?_
  rintro e w1 ⟨v1, rfl, ho1, hb1⟩
  have hz1' := hb1.size
  have hG1 := own_ge ho1
  have HG1 := Lib.hid hG1
  have hb1' := hb1
  obtain ⟨p1, hp1⟩ : ∃ p, 8 * l.length / 4294967296 % 4294967296 = p := ⟨_, rfl⟩
  obtain ⟨p2, hp2⟩ : ∃ p, 8 * l.length % 4294967296 = p := ⟨_, rfl⟩
  have d5 : IntKind.u32.wrap (8 * (l.length : Int) / 4294967296) = (p1 : Int) := by rw [IntKind.wrap_u32]; omega
  have d6 : IntKind.u32.wrap (8 * (l.length : Int)) = (p2 : Int) := by rw [IntKind.wrap_u32]; omega
  have HP : Hid (padN l = l ++ [128] ++ List.replicate z 0 ++ bytesN [p1, p2]) := Lib.hid (by unfold padN; rw [HZ.out, hp1, hp2])
  have hpw : W32 [p1, p2] := by intro x hx; simp at hx; rcases hx with rfl | rfl <;> omega
  clear hp1 hp2 hG1
  go_wp2_with (first | (at_builtin; refine wpL_app (k := .u8) rfl _ _ 30 rfl w.heap.size 5 i0 (.int .u8 0) 1 Try.underlying30 hi hz0 hz1 hz2 rfl _ (l) rfl (ho1.alloc _) _ _ ([128]) rfl (RdI.lit1 _ _ _ _) ?_ ?_ ?_ ?_; (focus (unfold maxLen; simp; omega)); (focus ((simp; omega))); (focus (first | (simp; done) | (simp; omega))); intro v2 w2 ho2 hg2 _) | (at_builtin; refine wpL_appz (k := .u8) rfl _ _ 30 3 rfl w.heap.size 5 i0 1 .i64 Try.underlying30 Try.underlying3 hi hz0 hz1 hz2 v2 (l ++ [128]) rfl ho2 z _ _ rfl d2 ?_ ?_ ?_ ?_; (focus (unfold maxLen; simp; omega)); (focus (simp; omega)); (focus (have := hg2.size; simp at this; omega)); intro v3 w3 ho3 hg3 hv3))
  have h2 := bG (bA hb1 _) hg2 HG1.out
  have h3 := bG h2 hg3 (own_ge ho2)
  have hz3 := h3.size
  have HO3 := Lib.hid ho3
  have HG3 := Lib.hid (own_ge ho3)
  clear hg2 hg3 ho2 ho3 hb1 hb1' ho1 h2 hv3
  refine (bytes_any (some ⟨w3.heap.size, 0, none⟩) 2 [p1, p2] _ ?_ (by simp) hpw).mono ?_
  · exact RdI.lit w3 .u32 [(p1 : Int), (p2 : Int)] _
  rintro e w4 ⟨v4, rfl, ho4, hb4⟩
  have hl8 : (bytesN [p1, p2]).length = 8 := bytesN_len [p1, p2]
  obtain ⟨BY, hBY⟩ : ∃ BY, bytesN [p1, p2] = BY := ⟨_, rfl⟩
  obtain ⟨D3, hD3⟩ : ∃ D, l ++ [128] ++ List.replicate z 0 = D := ⟨_, rfl⟩
  have hD3l : D3.length ≤ l.length + 65 := by rw [← hD3]; simp; omega
  have hHO3 := HO3.out
  rw [hD3] at hHO3
  rw [hBY] at ho4 hl8
  have HPB : Hid (padN l = D3 ++ BY) := Lib.hid (by rw [HP.out, hD3, hBY])
  obtain ⟨A4, c4, rfl, _, _⟩ := own_slice ho4
  have hr4 := RdI.of_own ho4
  have hb4' := bT (bel1 _ _) hb4
  have ho3' := own_below hHO3 hb4'
  have h4 := bT h3 hb4'
  have hz4 := h4.size
  have HL8 := Lib.hid hl8
  clear hb4 hb4' ho4 hl8 h3 hBY hD3 hHO3
  go_wp2_with (at_builtin; refine wpL_app (k := .u8) rfl _ _ 30 rfl w.heap.size 5 i0 (.int .u8 0) 1 Try.underlying30 hi hz0 hz1 hz2 rfl _ (D3) rfl (ho3') _ _ (BY) rfl (hr4) ?_ ?_ ?_ ?_; (focus (unfold maxLen; have := HL8.out; omega)); (focus ((have := HL8.out; omega))); (focus (omega)); intro v5 w5 ho5 hg5 _)
  have h5 := bG h4 hg5 HG3.out
  have HO5 := Lib.hid ho5
  clear hg5 ho5 ho3'
  go_wp2
  go_ret
  exact ⟨_, rfl, by rw [HPB.out]; exact HO5.out, h5⟩
end Go.Proofs.Ytachkhjbckapoaa

namespace Go.Proofs.Ytachkhjbckapoaa
open Go.RowKit
set_option linter.unusedVariables false
set_option maxRecDepth 100000
set_option linter.unusedSimpArgs false

/-- The number n as i bytes, most significant first. -/
def beT (n : Nat) : Nat → List Int
  | 0 => []
  | i + 1 => ((n / 256 ^ i % 256 : Nat) : Int) :: beT n i
theorem beT_len (n : Nat) : ∀ i, (beT n i).length = i
  | 0 => rfl
  | i + 1 => by rw [beT, List.length_cons, beT_len n i]
theorem beT_8 {n : Nat} (h : n < 4294967296 * 4294967296) : beT n 8 = bytesN [n / 4294967296 % 4294967296, n % 4294967296] := by
  simp only [beT, bytesN, beW, List.cons_append, List.nil_append, List.append_nil]
  simp only [List.cons.injEq, and_true]
  refine ⟨?_, ?_, ?_, ?_, ?_, ?_, ?_, ?_⟩ <;> omega
def lenV : Value → Nat
  | .slice _ n _ => n
  | _ => 0
/-- What is laid ahead of the length. -/
def padA (l : List Int) (q : Nat) : List Int := l ++ [128] ++ List.replicate q 0
theorem padA_len (l : List Int) (q : Nat) : (padA l q).length = l.length + 1 + q := by simp [padA]; omega
theorem padA_zero (l : List Int) : l ++ [128] = padA l 0 := by simp [padA]
theorem padA_succ (l : List Int) (q : Nat) : padA l q ++ [0] = padA l (q + 1) := by
  unfold padA
  rw [List.append_assoc, List.append_assoc, List.append_assoc, List.replicate_succ', ← List.append_assoc [128]]
theorem own_cast {w : World} {B e : Nat} {v : Value} {C D : List Int} (h : C = D) (ho : w.ownsRow B e 1 v C.length (C.map (.int .u8))) : w.ownsRow B e 1 v D.length (D.map (.int .u8)) := by
  subst h; exact ho
theorem own_next {w W w' : World} {B e : Nat} {v : Value} {C : List Int} {o : Obj} (hb : Below B w W) (hB : B ≤ W.heap.size) (hrow : W.ownsRow B e 1 v C.length (C.map (.int .u8))) (hg : (W.alloc o).grownBy w' v.ownBlock) : Below B w w' ∧ B ≤ w'.heap.size := by
  have h1 := hg.size
  rw [World.size_alloc] at h1
  exact ⟨(hb.alloc hB o).grown hg (by rw [World.size_alloc]; omega) (fun k hk => (hrow.lt k hk).1), by omega⟩
theorem own_next2 {w W w' : World} {B n c : Nat} {o : Obj} (hb : Below B w W) (hB : B ≤ W.heap.size) (hg : (W.alloc o).grownBy w' (Value.slice (some ⟨W.heap.size, 0, none⟩) n c).ownBlock) : Below B w w' ∧ B ≤ w'.heap.size := by
  have h1 := hg.size
  rw [World.size_alloc] at h1
  exact ⟨(hb.alloc hB o).grown hg (by rw [World.size_alloc]; omega) (fun k hk => by have := ob_slice hk; omega), by omega⟩
theorem own_other {W w' : World} {B e n c : Nat} {v : Value} {C : List Int} {o : Obj} (hrow : W.ownsRow B e 1 v C.length (C.map (.int .u8))) (hg : (W.alloc o).grownBy w' (Value.slice (some ⟨W.heap.size, 0, none⟩) n c).ownBlock) : w'.ownsRow B e 1 v C.length (C.map (.int .u8)) := by
  refine (hrow.alloc o).kept hg (Or.inr fun h => ?_)
  have h2 : (Value.slice (some ⟨W.heap.size, 0, none⟩) n c).ownBlock = some W.heap.size := by simp [Value.ownBlock]
  have := (hrow.lt _ (h.trans h2)).2
  omega
theorem rd_of_own {w : World} {B e c : Nat} {A : Option Addr} {C : List Int} (h : w.ownsRow B e 1 (.slice A C.length c) C.length (C.map (.int .u8))) : RdI w .u8 A C := RdI.of_own h
theorem beT_succ {n d x i : Nat} (hd : n / 256 ^ i = d) (hx : d % 256 = x) : [(x : Int)] ++ beT n i = beT n (i + 1) := by
  rw [beT, hd, hx]; rfl
theorem padA_done {l : List Int} {q m : Nat} (hq : zerosN l.length = q) (hm : m = 8 * l.length) (hl : l.length ≤ 1000000) : padA l q ++ beT m 8 = padN l := by
  subst hq hm
  rw [beT_8 (by omega)]
  rfl

set_option maxHeartbeats 4000000 in
theorem refPad_any (A : Option Addr) (c : Nat) (l : List Int) (w : World) (hr : RdI w .u8 A l) (hl : l.length ≤ 1000000) :
    Calls Try.prog 130 #[.slice A l.length c] w fun e w' => ∃ v, e = .returned v ∧ w'.ownsRow w.heap.size 5 1 v (padN l).length ((padN l).map (.int .u8)) ∧ Below w.heap.size w w' := by
  obtain ⟨i0, hi, hz0, hz1, hz2⟩ := info_parts infoB8
  obtain ⟨B, hBw⟩ : ∃ B, w.heap.size = B := ⟨_, rfl⟩
  obtain ⟨z, hz⟩ : ∃ z, zerosN l.length = z := ⟨_, rfl⟩
  have HZ := Lib.hid hz
  have hz64 : z < 64 := by rw [← hz]; unfold zerosN; omega
  have HZ2 : Hid ((l.length + 1 + z) % 64 = 56 ∧ ∀ q, q < z → (l.length + 1 + q) % 64 ≠ 56) := Lib.hid ⟨by rw [← hz]; unfold zerosN; omega, fun q hq => by rw [← hz] at hq; unfold zerosN at hq; omega⟩
  have HBw := Lib.hid hBw
  clear hz hBw
  go_enter Try.func130, Try.ntmps130
  have HLN := Lib.hid hl
  go_wp2_with (first
    | (at_builtin; (refine wpL_app (k := .u8) rfl _ _ 30 rfl w.heap.size 5 i0 (.int .u8 0) 1 Try.underlying30 hi hz0 hz1 hz2 rfl _ ([]) rfl (own_lit0 _ _ _) _ _ (l) rfl (hr.below (bel1 _ _)) ?_ ?_ ?_ ?_; (focus (exact maxLen_ge (by simp; omega))); (focus (simp; omega)); (focus (first | (simp; done) | (simp; omega))); intro v1 w1 ho1 hg1 _; have HB1 : Hid (Below B w w1 ∧ B ≤ w1.heap.size) := Lib.hid (by have h := bG (bel1 w _) hg1 (fun k h => by have := ob_slice h; omega); rw [HBw.out] at h; exact ⟨h, by have := h.size; have := HBw.out; omega⟩); have HO1 : Hid (w1.ownsRow B 5 1 v1 l.length (l.map (.int .u8))) := Lib.hid (by have h := ho1; rw [HBw.out] at h; simpa using h); clear ho1 hg1 hr))
    | (at_builtin; (refine wpL_app (k := .u8) rfl _ _ 30 rfl B 5 i0 (.int .u8 0) 1 Try.underlying30 hi hz0 hz1 hz2 rfl _ (l) rfl (HO1.out.alloc _) _ _ ([128]) rfl (RdI.lit1 _ _ _ _) ?_ ?_ ?_ ?_; (focus (have := HLN.out; refine maxLen_ge ?_; (try simp only [List.length_cons, List.length_nil, padA_len]); omega)); (focus (have := HLN.out; (try simp only [List.length_cons, List.length_nil, padA_len]); omega)); (focus (have := HB1.out.2; rw [World.size_alloc]; omega)); intro v2 w2 ho hg _; have HOx := Lib.hid ho; have HGx := Lib.hid hg; clear ho hg)))
  have HB2 := Lib.hid (own_next (w' := w2) HB1.out.1 HB1.out.2 HO1.out HGx.out)
  have HO2 : Hid (w2.ownsRow B 5 1 v2 (padA l 0).length ((padA l 0).map (.int .u8))) := Lib.hid (own_cast (padA_zero l) HOx.out)
  clear HOx HGx HO1 HB1
  obtain ⟨A2, c2, rfl, k1, k2⟩ := own_slice HO2.out
  clear k1 k2
  go_loopw [3] (fun v wr => ∃ (q : Nat) (A2 : Option Addr) (c2 : Nat), q ≤ z ∧ v = .slice A2 (padA l q).length c2 ∧ Hid (wr.ownsRow B 5 1 (.slice A2 (padA l q).length c2) (padA l q).length ((padA l q).map (.int .u8))) ∧ Hid (Below B w wr ∧ B ≤ wr.heap.size)) (fun v _ => l.length + 1 + z - lenV v)
  case atStart => exact ⟨0, A2, c2, Nat.zero_le _, rfl, HO2, HB2⟩
  case round =>
    obtain ⟨q, A2, c2, hq, rfl, HO, HB⟩ := hrel
    obtain ⟨r, hr0⟩ : ∃ r, (padA l q).length % 64 = r := ⟨_, rfl⟩
    have hn2 := padA_len l q
    have e1 : ((padA l q).length : Int) % 64 = (r : Int) := by rw [← hr0]; simp
    by_cases hqz : q = z
    · have hr56 : r = 56 := by rw [← hr0, hn2, hqz]; exact HZ2.out.1
      have d : ((r : Int) != 56) = false := by rw [hr56]; rfl
      subst hqz
      clear hr0 hr56 hn2
      go_wp2
      obtain ⟨m, hm⟩ : ∃ m, m = 8 * l.length := ⟨_, rfl⟩
      have HM := Lib.hid hm
      go_loopw [4, 5, 6] (fun n v i wr => ∃ (k d : Nat) (A3 : Option Addr) (c3 : Nat), k ≤ 8 ∧ i = .int .i64 k ∧ n = .int .i64 d ∧ Hid (m / 256 ^ k = d) ∧ d ≤ 8000000 ∧ v = .slice A3 (beT m k).length c3 ∧ Hid (RdI wr .u8 A3 (beT m k)) ∧ Hid (wr.ownsRow B 5 1 (.slice A2 (padA l q).length c2) (padA l q).length ((padA l q).map (.int .u8))) ∧ Hid (Below B w wr ∧ B ≤ wr.heap.size)) (fun _ _ i _ => 8 - (intOf i).toNat)
      case atStart =>
        refine ⟨0, m, _, _, by omega, rfl, ?_, Lib.hid (by simp), by omega, rfl, Lib.hid (RdI.nil _ _ _), Lib.hid (HO.out.alloc _), Lib.hid ⟨HB.out.1.alloc HB.out.2 _, by rw [World.size_alloc]; have := HB.out.2; omega⟩⟩
        rw [hm]; simp
      case round =>
        obtain ⟨k, d, A3, c3, hk, rfl, rfl, HD, hd, rfl, HR, HO, HB⟩ := hrel
        obtain ⟨x, hx⟩ : ∃ x, d % 256 = x := ⟨_, rfl⟩
        obtain ⟨y, hy⟩ : ∃ y, d / 256 = y := ⟨_, rfl⟩
        have HX := Lib.hid hx
        have HY := Lib.hid hy
        have hx2 : x < 256 := by omega
        have e2 : (d : Int) % 256 = (x : Int) := by omega
        have e3 : (d : Int) / 256 = (y : Int) := by omega
        have hy2 : y ≤ 8000000 := by omega
        clear hx hy hm e1
        by_cases hk8 : k = 8
        · subst hk8
          go_wp2_with (at_builtin; (refine wpL_app (k := .u8) rfl _ _ 30 rfl B 5 i0 (.int .u8 0) 1 Try.underlying30 hi hz0 hz1 hz2 rfl _ (padA l q) rfl HO.out _ _ (beT m 8) rfl HR.out ?_ ?_ ?_ ?_; (focus (have := HLN.out; refine maxLen_ge ?_; (try simp only [beT_len, padA_len]); omega)); (focus (have := HLN.out; (try simp only [beT_len, padA_len]); omega)); (focus (exact HB.out.2)); intro v3 w3 ho hg _; have HO3 := Lib.hid (own_cast (padA_done HZ.out HM.out HLN.out) ho); have HB3 := Lib.hid (HB.out.1.grown hg HB.out.2 (fun k hk => (HO.out.lt k hk).1)); clear ho hg HO HB))
          go_ret
          exact ⟨_, rfl, by have h := HO3.out; rw [HBw.out]; exact h, by rw [HBw.out]; exact HB3.out⟩
        · have hk9 : k < 8 := by omega
          go_wp2_with (at_builtin; (refine wpL_app (k := .u8) rfl _ _ 30 rfl wr.heap.size 5 i0 (.int .u8 0) 1 Try.underlying30 hi hz0 hz1 hz2 rfl _ ([(x : Int)]) rfl (own_lit1 _ _ _ _) _ _ (beT m k) rfl (HR.out.below (bel1 _ _)) ?_ ?_ ?_ ?_; (focus (refine maxLen_ge ?_; (try simp only [List.length_cons, List.length_nil, beT_len]); omega)); (focus ((try simp only [List.length_cons, List.length_nil, beT_len]); omega)); (focus (rw [World.size_alloc]; omega)); intro v3 w3 ho hg _; have HB3 := Lib.hid (own_next2 (w' := w3) HB.out.1 HB.out.2 hg); have HOO := Lib.hid (own_other HO.out hg); have HO3 := Lib.hid (own_cast (beT_succ HD.out HX.out) ho); obtain ⟨A4, c4, hv3, _, _⟩ := own_slice HO3.out; subst hv3; have HR3 := Lib.hid (rd_of_own HO3.out); clear ho hg HO HB HO3 HR))
          go_roundw
          case rel => exact ⟨k + 1, y, A4, c4, by omega, by simp, rfl, Lib.hid (by rw [Nat.pow_succ, ← Nat.div_div_eq_div_mul, HD.out, HY.out]), hy2, rfl, HR3, HOO, HB3⟩
          case measure => simp [intOf]; omega
    · have hr56 : r ≠ 56 := by rw [← hr0, hn2]; exact HZ2.out.2 q (by omega)
      have d : ((r : Int) != 56) = true := by simp; omega
      clear hr0 hr56 hn2
      go_wp2_with (at_builtin; (refine wpL_app (k := .u8) rfl _ _ 30 rfl B 5 i0 (.int .u8 0) 1 Try.underlying30 hi hz0 hz1 hz2 rfl _ (padA l q) rfl (HO.out.alloc _) _ _ ([0]) rfl (RdI.lit1 _ _ _ _) ?_ ?_ ?_ ?_; (focus (have := HLN.out; refine maxLen_ge ?_; (try simp only [List.length_cons, List.length_nil, padA_len]); omega)); (focus (have := HLN.out; (try simp only [List.length_cons, List.length_nil, padA_len]); omega)); (focus (have := HB.out.2; rw [World.size_alloc]; omega)); intro v3 w3 ho hg _; have HB3 := Lib.hid (own_next (w' := w3) HB.out.1 HB.out.2 HO.out hg); have HO3 := Lib.hid (own_cast (padA_succ l q) ho); obtain ⟨A3, c3, hv3, _, _⟩ := own_slice HO3.out; subst hv3; clear ho hg HO HB))
      go_roundw
      case rel => exact ⟨q + 1, A3, c3, by omega, rfl, HO3, HB3⟩
      case measure => simp [lenV, padA_len]; omega
end Go.Proofs.Ytachkhjbckapoaa

namespace Go.Proofs.Ytachkhjbckapoaa
open Go.RowKit
set_option linter.unusedVariables false
set_option maxRecDepth 100000
set_option linter.unusedSimpArgs false

theorem infoU8 : (Try.prog.info? 5).map (fun i => (i.zero, i.size, i.bytes)) = some (some (.int .u8 0), 1, 1) := by kernel_rfl
theorem infoI64 : (Try.prog.info? 3).map (fun i => (i.zero, i.size, i.bytes)) = some (some (.int .i64 0), 1, 8) := by kernel_rfl

/-- The last w digits of n. -/
def dg : Nat → Int → List Int
  | 0, _ => []
  | w + 1, n => n / 10 ^ w % 10 :: dg w n
theorem dg_succ (w : Nat) (n : Int) : dg (w + 1) n = n / 10 ^ w % 10 :: dg w n := rfl
theorem dg_len (w : Nat) (n : Int) : (dg w n).length = w := by
  induction w with
  | zero => rfl
  | succ w ih => simp [dg, ih]
theorem dg_byte (w : Nat) (n : Int) : ∀ x ∈ dg w n, 0 ≤ x ∧ x < 10 := by
  induction w with
  | zero => simp [dg]
  | succ w ih =>
    intro x hx
    rcases List.mem_cons.1 hx with rfl | hx
    · omega
    · exact ih x hx
theorem div_step (n : Int) (k : Nat) : n / 10 ^ k / 10 = n / 10 ^ (k + 1) := by
  rw [Int.pow_succ, Int.ediv_ediv_of_nonneg (by exact Int.pow_nonneg (by omega))]
def putL (n wd : Int) : List Int := if n < 0 ∨ wd < 0 ∨ 18 < wd ∨ 0 < n / 10 ^ wd.toNat then [] else dg wd.toNat n
def putE (n wd : Int) : Int := if n < 0 ∨ wd < 0 ∨ 18 < wd then 1 else if 0 < n / 10 ^ wd.toNat then 23 else 0
theorem putL_arg {n wd : Int} (h : n < 0 ∨ wd < 0 ∨ 18 < wd) : putL n wd = [] := by unfold putL; rw [if_pos (by omega)]
theorem putE_arg {n wd : Int} (h : n < 0 ∨ wd < 0 ∨ 18 < wd) : putE n wd = 1 := by unfold putE; rw [if_pos h]
theorem putL_over {n : Int} {k : Nat} (h : 0 < n / 10 ^ k) : putL n k = [] := by unfold putL; rw [if_pos (by simp [h])]
theorem putE_over {n : Int} {k : Nat} (h0 : 0 ≤ n) (h1 : k ≤ 18) (h : 0 < n / 10 ^ k) : putE n k = 23 := by unfold putE; rw [if_neg (by omega), if_pos (by simpa using h)]
theorem putL_ok {n : Int} {k : Nat} (h0 : 0 ≤ n) (h1 : k ≤ 18) (h : ¬ 0 < n / 10 ^ k) : putL n k = dg k n := by
  unfold putL; rw [if_neg (by simp only [Int.toNat_natCast]; omega)]; simp
theorem putE_ok {n : Int} {k : Nat} (h0 : 0 ≤ n) (h1 : k ≤ 18) (h : ¬ 0 < n / 10 ^ k) : putE n k = 0 := by unfold putE; rw [if_neg (by omega), if_neg (by simpa using h)]

theorem repl_set (a : Nat) (d : Int) (l : List Int) : ((List.replicate (a + 1) (0 : Int) ++ l).map (Value.int .u8)).set a (.int .u8 d) = (List.replicate a (0 : Int) ++ d :: l).map (Value.int .u8) := by
  rw [← List.map_set, List.replicate_succ']
  simp [List.set_append]

/-- What a digits' row is, behind Put. -/
def PutRet (n wd : Int) (w : World) (e : Ending) (w' : World) : Prop :=
  ∃ v, e = .returned (.tuple #[v, .int .i64 (putE n wd)]) ∧ w'.ownsRow w.heap.size 5 1 v (putL n wd).length ((putL n wd).map (.int .u8)) ∧ Below w.heap.size w w'

set_option maxHeartbeats 2000000 in
theorem bcdPut_nat (n : Int) (W : Nat) (w : World) (h0 : 0 ≤ n) (h9 : n ≤ 9223372036854775807) (hW : W ≤ 18) :
    Calls Try.prog 139 #[.int .i64 n, .int .i64 W] w (PutRet n W w) := by
  obtain ⟨i0, hi, hz0, hz1, hz2⟩ := info_parts infoU8
  go_enter Try.func139, Try.ntmps139
  go_wp2_with (first
    | (at_make; refine wpList_make_full _ rfl _ _ 30 rfl w.heap.size 5 i0 (.int .u8 0) 1 Try.underlying30 hi hz0 hz1 .i64 .i64 _ _ W rfl rfl rfl rfl (by rw [hz2]; omega) (by unfold maxLen; omega) (Nat.le_refl _) ?_; intro w1 hown hg))
  have hown2 : w1.ownsRow w.heap.size 5 1 (.slice (some ⟨w.heap.size, 0, none⟩) W W) W ((List.replicate (W - 0) (0 : Int) ++ dg 0 n).map (.int .u8)) := by
    have e : (madeCells (Value.int .u8 0).cells (W * 1)).toList = (List.replicate (W - 0) (0 : Int) ++ dg 0 n).map (.int .u8) := by
      show (madeCells #[Value.int .u8 0] (W * 1)).toList = _
      rw [toList_madeCells_one]; simp [dg]
    rw [← e]; exact hown
  clear hown
  go_loopw [0, 22] (fun nn i wr => ∃ k : Nat, k ≤ W ∧ i = .int .i64 k ∧ nn = .int .i64 (n / 10 ^ k) ∧ wr.ownsRow w.heap.size 5 1 (.slice (some ⟨w.heap.size, 0, none⟩) W W) W ((List.replicate (W - k) (0 : Int) ++ dg k n).map (.int .u8)) ∧ Below w.heap.size w wr) (fun _ i _ => W - (intOf i).toNat)
  case atStart => exact ⟨0, Nat.zero_le _, rfl, by simp, hown2, bG (bR _) hg (fun k h => by cases h)⟩
  case round =>
    obtain ⟨k, hk, rfl, rfl, ho, hbl⟩ := hrel
    have hq := div_step n k
    have HQ := Lib.hid hq
    have hq0 : 0 ≤ n / 10 ^ k := Int.ediv_nonneg h0 (Int.pow_nonneg (by omega))
    have hq9 : n / 10 ^ k ≤ 9223372036854775807 := Int.le_trans (Int.ediv_le_self _ h0) h9
    by_cases hlt : k < W
    · obtain ⟨j, rfl⟩ : ∃ j, W = k + 1 + j := ⟨W - k - 1, by omega⟩
      have HD := Lib.hid (dg_succ k n)
      have HS := Lib.hid (repl_set j (n / 10 ^ k % 10) (dg k n))
      have ho2 := ho
      rw [show k + 1 + j - k = j + 1 by omega] at ho2
      have hcell := ho2.cellAt j (by omega)
      rw [List.getElem?_eq_getElem (by simp; omega)] at hcell
      have hfr := ho2.frozenAt j
      have HO := Lib.hid (ho2.stored j (.int .u8 (n / 10 ^ k % 10)))
      clear ho ho2 hown2 hg hq
      generalize n / 10 ^ k = q at *
      have hx : ((k + 1 + j : Nat) : Int) - 1 - (k : Int) = (j : Int) := by omega
      go_wp2
      go_roundw
      case rel => exact ⟨k + 1, by omega, by go_num, by rw [HQ.out], by have h := HO.out.1; rw [HS.out] at h; rw [HD.out, show k + 1 + j - (k + 1) = j by omega]; exact h, bS hbl (Nat.le_refl _)⟩
      case measure => simp [intOf]; omega
    · obtain rfl : k = W := by omega
      have ho2 : wr.ownsRow w.heap.size 5 1 (.slice (some ⟨w.heap.size, 0, none⟩) k k) (dg k n).length ((dg k n).map (.int .u8)) := by
        rw [Nat.sub_self] at ho; simp only [List.replicate_zero, List.nil_append] at ho; rw [dg_len]; exact ho
      by_cases hov : 0 < n / 10 ^ k
      · have E1 := Lib.hid (putL_over hov)
        have E2 := Lib.hid (putE_over h0 hW hov)
        have HO2 := Lib.hid ho2
        clear ho hown2 hq HQ hg ho2
        go_wp2
        go_ret2
        exact ⟨_, by rw [E2.out] <;> rfl, by rw [E1.out]; exact World.ownsRow_nil _ _ _ _, hbl⟩
      · have E1 := Lib.hid (putL_ok h0 hW hov)
        have E2 := Lib.hid (putE_ok h0 hW hov)
        have HO2 := Lib.hid ho2
        clear ho hown2 hq HQ hg ho2
        go_wp2
        go_ret2
        exact ⟨_, by rw [E2.out] <;> rfl, by rw [E1.out]; exact HO2.out, hbl⟩

theorem bcdPut_any (n wd : Int) (w : World) (h9 : n ≤ 9223372036854775807) : Calls Try.prog 139 #[.int .i64 n, .int .i64 wd] w (PutRet n wd w) := by
  by_cases h : n < 0 ∨ wd < 0 ∨ 18 < wd
  · have E1 := Lib.hid (putL_arg h)
    have E2 := Lib.hid (putE_arg h)
    by_cases h1 : n < 0
    · go_enter Try.func139, Try.ntmps139
      go_wp2
      go_ret2
      exact ⟨_, by rw [E2.out] <;> rfl, by rw [E1.out]; exact World.ownsRow_nil _ _ _ _, bR _⟩
    · by_cases h2 : wd < 0
      · go_enter Try.func139, Try.ntmps139
        go_wp2
        go_ret2
        exact ⟨_, by rw [E2.out] <;> rfl, by rw [E1.out]; exact World.ownsRow_nil _ _ _ _, bR _⟩
      · have h3 : 18 < wd := by omega
        go_enter Try.func139, Try.ntmps139
        go_wp2
        go_ret2
        exact ⟨_, by rw [E2.out] <;> rfl, by rw [E1.out]; exact World.ownsRow_nil _ _ _ _, bR _⟩
  · obtain ⟨W, rfl⟩ := Int.eq_ofNat_of_zero_le (show 0 ≤ wd by omega)
    exact bcdPut_nat n W w (by omega) h9 (by omega)
end Go.Proofs.Ytachkhjbckapoaa

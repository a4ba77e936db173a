/- Layer 16: signs as bytes, what forty.Get computes, for all bytes. No condition. -/
import Derived.Test.YtachkhjbckapoaaT18
import Derived.Maps.OwnIn
import Derived.Maps.Views
namespace Go.Proofs.Ytachkhjbckapoaa
open Go.RowKit Go.Shelf Go.Maps
set_option linter.unusedVariables false
set_option maxRecDepth 100000
set_option linter.unusedSimpArgs false
attribute [local go_sem] Oper.semAt_some

/-- The map of the signs, after k of them; what it holds at a byte. -/
theorem maxLen_big {n : Nat} (h : n ≤ 140737488355328) : n ≤ maxLen := by unfold maxLen; omega
def mapD : Nat → DataW Unit
  | 0 => .map []
  | k + 1 => (mapD k).put (.int .u8 (sg45 (k : Int))) (.lit (.int .i64 ((k : Int) + 1)))
def valAt : Nat → Int → Int
  | 0, _ => 0
  | k + 1, x => if x = sg45 (k : Int) then (k : Int) + 1 else valAt k x
theorem mapD_is : ∀ k, IsMap (mapD k)
  | 0 => ⟨[], rfl⟩
  | k + 1 => (mapD_is k).put _ _
theorem mapD_at (x : Int) : ∀ k, (mapD k).atKey (.int .u8 x) (.lit (.int .i64 0)) = .lit (.int .i64 (valAt k x))
  | 0 => rfl
  | k + 1 => by
    unfold mapD valAt
    by_cases h : x = sg45 (k : Int)
    · subst h
      rw [if_pos rfl, atKey_put_same (mapD_is k) (by trivial)]
    · rw [if_neg h, atKey_put_other (fun e => by injection e with _ e2; exact h e2)]
      exact mapD_at x k
theorem val_all : (List.range 256).all (fun n => valAt 45 (n : Int) == dg45 (n : Int) + 1) = true := by kernel_rfl
theorem val_dg {x : Int} (h0 : 0 ≤ x) (h1 : x < 256) : valAt 45 x = dg45 x + 1 := by
  obtain ⟨n, rfl⟩ := Int.eq_ofNat_of_zero_le h0
  have h := List.all_eq_true.1 val_all n (List.mem_range.2 (by omega))
  simpa using h

/-- The number of a group, from its last sign on. -/
def nGo : List Int → Int → Option Int
  | [], n => some n
  | x :: t, n => if dg45 x < 0 then none else nGo t (45 * n + dg45 x)
theorem nGo_cons (x : Int) (t : List Int) (n : Int) : nGo (x :: t) n = if dg45 x < 0 then none else nGo t (45 * n + dg45 x) := rfl
theorem get_step3 {q acc : List Int} (h : 3 ≤ q.length) : fortyGo q acc = match nGo (q.take 3).reverse 0 with
    | none => ([], 7)
    | some n => if 65535 < n then ([], 23) else fortyGo (q.drop 3) (acc ++ [n / 256, n % 256]) := by
  match q, h with
  | a :: b :: c :: t, _ =>
    have e : (List.take 3 (a :: b :: c :: t)).reverse = [c, b, a] := rfl
    rw [e]
    have e2 : List.drop 3 (a :: b :: c :: t) = t := rfl
    rw [e2]
    simp only [fortyGo, nGo, bad3, n3]
    by_cases ha : dg45 a < 0
    · by_cases hb : dg45 b < 0 <;> by_cases hc : dg45 c < 0 <;> simp [ha, hb, hc]
    · by_cases hb : dg45 b < 0
      · by_cases hc : dg45 c < 0 <;> simp [ha, hb, hc]
      · by_cases hc : dg45 c < 0
        · simp [ha, hb, hc]
        · have e3 : 45 * (45 * (45 * 0 + dg45 c) + dg45 b) + dg45 a = dg45 a + 45 * dg45 b + 2025 * dg45 c := by omega
          simp [ha, hb, hc]
          rw [show 45 * (45 * dg45 c + dg45 b) + dg45 a = dg45 a + 45 * dg45 b + 2025 * dg45 c by omega]
          split <;> (rename_i hx; simp [hx])
theorem get_step2 {q acc : List Int} (h : q.length = 2) : fortyGo q acc = match nGo (q.take 2).reverse 0 with
    | none => ([], 7)
    | some n => if 255 < n then ([], 23) else (acc ++ [n], 0) := by
  match q, h with
  | [a, b], _ =>
    have e : (List.take 2 [a, b]).reverse = [b, a] := rfl
    rw [e]
    simp only [fortyGo, nGo, bad2, n2]
    by_cases ha : dg45 a < 0
    · by_cases hb : dg45 b < 0 <;> simp [ha, hb]
    · by_cases hb : dg45 b < 0
      · simp [ha, hb]
      · simp [ha, hb]
        rw [show 45 * dg45 b + dg45 a = dg45 a + 45 * dg45 b by omega]
        split <;> (rename_i hx; simp [hx])
theorem get_none {q acc g : List Int} {m : Nat} (hm : m = min 3 q.length) (h2 : m = 2 ∨ m = 3) (hg : q.take m = g) (hn : nGo g.reverse 0 = none) : fortyGo q acc = ([], 7) := by
  rcases h2 with rfl | rfl
  · rw [get_step2 (by omega), hg, hn]
  · rw [get_step3 (by omega), hg, hn]
theorem get_over {q acc g : List Int} {m : Nat} {n : Int} (hm : m = min 3 q.length) (hg : q.take m = g) (hn : nGo g.reverse 0 = some n) (h : m = 2 ∧ 255 < n ∨ m = 3 ∧ 65535 < n) : fortyGo q acc = ([], 23) := by
  rcases h with ⟨rfl, h⟩ | ⟨rfl, h⟩
  · rw [get_step2 (by omega), hg, hn]; simp only; rw [if_pos h]
  · rw [get_step3 (by omega), hg, hn]; simp only; rw [if_pos h]
theorem get_ok2 {q acc g : List Int} {n : Int} (hm : 2 = min 3 q.length) (hg : q.take 2 = g) (hn : nGo g.reverse 0 = some n) (h : ¬ 255 < n) : fortyGo q acc = fortyGo (q.drop 3) (acc ++ [n]) := by
  rw [get_step2 (by omega), hg, hn, List.drop_eq_nil_of_le (by omega)]; simp only; rw [if_neg h]; rfl
theorem get_ok3 {q acc g : List Int} {n : Int} (hm : 3 = min 3 q.length) (hg : q.take 3 = g) (hn : nGo g.reverse 0 = some n) (h : ¬ 65535 < n) : fortyGo q acc = fortyGo (q.drop 3) (acc ++ [n / 256, n % 256]) := by
  rw [get_step3 (by omega), hg, hn]; simp only; rw [if_neg h]
theorem dgGo_ge : ∀ (l : List Int) (c k : Int), 0 ≤ k → -1 ≤ dgGo c l k
  | [], c, k, h => by simp [dgGo]
  | x :: l, c, k, h => by
    unfold dgGo
    split
    · omega
    · exact dgGo_ge l c (k + 1) (by omega)
theorem dg_ge (c : Int) : -1 ≤ dg45 c := dgGo_ge _ _ _ (by omega)
theorem take_rev {g : List Int} {k : Nat} (h : k < g.length) : (g.take (k + 1)).reverse = g.getD k 0 :: (g.take k).reverse := by
  rw [List.take_succ_eq_append_getElem h, List.reverse_append]
  simp [h]

theorem wf_u8 {x : Int} (h0 : 0 ≤ x) (h1 : x < 256) : (Lit.int .u8 x).wf = true := by
  have e1 : IntKind.min .u8 = 0 := by decide
  have e2 : IntKind.max .u8 = 255 := by decide
  simp only [Lit.wf, Bool.and_eq_true, decide_eq_true_eq]
  omega
theorem lawU8 : Keyed Try.prog 5 := int_keyed Try.underlying5
theorem zeroI (w : World) : (zeroValue 3).run Try.prog w = .ok (.int .i64 0) w := by kernel_rfl

theorem fgOut {W w : World} {tmps : Array Value} {l : List Int} {v : Value} {e : Int} (hp : tmps.getD 2 undef = .pointer (some ⟨w.heap.size, 0, none⟩)) (hq : tmps.getD 3 undef = .pointer (some ⟨w.heap.size + 1, 0, none⟩))
    (h1 : Boxed W w.heap.size 30 v) (h2 : Boxed W (w.heap.size + 1) 31 (.int .i64 e)) {r : List Int} (hE : fortyGet l = (r, e)) (hr : W.ownsRow w.heap.size 5 1 v r.length (r.map (.int .u8))) (hb : Below w.heap.size w W) :
    ∃ u, (results Try.f86 tmps).run Try.prog W = .ok u W ∧ ByteRetE (fortyGet l) w (.returned u) W :=
  ⟨_, results_cell2 rfl Try.underlying30 Try.underlying31 rfl rfl hp hq h1.cell h2.cell, ⟨v, by rw [hE], by rw [hE]; exact hr, hb⟩⟩

/-- What Get's own cells hold between two rounds; where a round has left. -/
def fgI (w : World) (N : Nat) (l : List Int) (k : Nat) (W : World) : Prop :=
  (∃ (v : Value) (acc : List Int), Boxed W N 30 v ∧ W.ownsRow w.heap.size 5 1 v acc.length (acc.map (.int .u8)) ∧ acc.length ≤ 2 * k ∧ Hid (fortyGo (l.drop (3 * k)) acc = fortyGo l [])) ∧
  Boxed W w.heap.size 30 (.slice none 0 0) ∧ Boxed W (w.heap.size + 1) 31 (.int .i64 0) ∧ Boxed W (w.heap.size + 1 + 1 + 1) 138 (.map (some (w.heap.size + 1 + 1))) ∧
  W.ownsMap Try.prog 5 (plainElem Try.prog 3) (w.heap.size + 1 + 1) 45 (mapD 45) ∧ Boxed W (N + 1 + 1) 3 (.int .i64 3) ∧ (∃ u, Boxed W (N + 1) 30 u) ∧ Below w.heap.size w W
def fgX (w : World) (l : List Int) (W : World) : Prop :=
  Boxed W w.heap.size 30 (.slice none 0 0) ∧ (∃ e : Int, Hid (([], e) = fortyGo l []) ∧ Boxed W (w.heap.size + 1) 31 (.int .i64 e)) ∧ Below w.heap.size w W
theorem fgI_own (w : World) (N : Nat) (l : List Int) (hN : w.heap.size + 4 ≤ N) : OwnFrom (N + 3) (fgI w N l) := by
  rintro k X Y row ⟨⟨v, acc, hv, ho, ha, hg0⟩, h0, h1, h3, hm, h6, ⟨u, h5⟩, hb⟩ hg hr
  have hne : ∀ j, j < N + 3 → some j ≠ row := fun j hj e => by have := (hr j e.symm).1; omega
  obtain ⟨v2, hv2, ho2, rfl⟩ := holdsRow_own w.heap.size N 30 5 1 (fun _ : Unit => acc.length) (fun _ => acc.map (.int .u8)) (fun _ u => u = v) () X Y row ⟨v, hv, ho, rfl⟩ hg (fun r e => (hr r e).2)
  exact ⟨⟨v2, acc, hv2, ho2, ha, hg0⟩, h0.kept hg (hne _ (by omega)), h1.kept hg (hne _ (by omega)), h3.kept hg (hne _ (by omega)), hm.kept hg (hne _ (by omega)), h6.kept hg (hne _ (by omega)), ⟨u, h5.kept hg (hne _ (by omega))⟩,
    hb.grown hg (hb.size) (fun j e => by have := (hr j e).1; omega)⟩
theorem fgX_own (w : World) (N : Nat) (l : List Int) (hN : w.heap.size + 4 ≤ N) : OwnFrom (N + 3) (fun (_ : Unit) => fgX w l) := by
  rintro k X Y row ⟨h0, ⟨e, he, h1⟩, hb⟩ hg hr
  have hne : ∀ j, j < N + 3 → some j ≠ row := fun j hj e => by have := (hr j e.symm).1; omega
  exact ⟨h0.kept hg (hne _ (by omega)), ⟨e, he, h1.kept hg (hne _ (by omega))⟩, hb.grown hg (hb.size) (fun j e => by have := (hr j e).1; omega)⟩
theorem map_set {W : World} {P : Program} {k : TypeId} {R : Value → Option (DataW Unit × List MemPlace)} {b n : Nat} {D : DataW Unit} (h : W.ownsMap P k R b n D) {g : Nat} (hne : b ≠ g) (v : Value) : (W.setCell ⟨g, 0, none⟩ v).ownsMap P k R b n D :=
  h.kept (grownBy_setCell' W g v) (fun e => hne (Option.some.inj e))
theorem fgI_set {w : World} {N : Nat} (hN : w.heap.size + 4 ≤ N) {l : List Int} {k : Nat} {W : World} (v' : Value) (h : fgI w N l k W) : fgI w N l k (W.setCell ⟨N + 1, 0, none⟩ v') := by
  obtain ⟨⟨v, acc, hv, ho, ha, hg0⟩, h0, h1, h3, hm, h6, ⟨u, h5⟩, hb⟩ := h
  exact ⟨⟨v, acc, hv.other (by omega) _, ho.kept (grownBy_setCell' W _ v') (.inr (h5.not_row (by decide) ho).symm), ha, hg0⟩, h0.other (by omega) _, h1.other (by omega) _, h3.other (by omega) _, map_set hm (by omega) _, h6.other (by omega) _, ⟨_, h5.set _⟩,
    hb.setCell (p := ⟨N + 1, 0, none⟩) (show w.heap.size ≤ N + 1 by omega) v'⟩
/-- The map stays behind an append to a row. -/
theorem map_across {W w1 : World} {P : Program} {k : TypeId} {R : Value → Option (DataW Unit × List MemPlace)} {b n n₀ B size kk : Nat} {D : DataW Unit} {e : TypeId} {v : Value} {xs : List Value} {tmp : Obj}
    (h : W.ownsMap P k R b n D) (hrow : W.ownsRow n₀ e size v kk xs) (hgrow : (W.alloc tmp).grownBy w1 v.ownBlock) (hne : b ≠ B) (v' : Value) : (w1.setCell ⟨B, 0, none⟩ v').ownsMap P k R b n D := by
  refine map_set ((h.alloc tmp).kept hgrow ?_) hne v'
  intro e1
  obtain ⟨es, clock, hb, _⟩ := h
  rcases hrow.2 with ⟨rfl, _⟩ | ⟨g, cap, cur, rfl, _, hg, _⟩
  · simp [Value.ownBlock] at e1
  · obtain rfl : b = g := by simpa [Value.ownBlock] using e1
    rw [hb] at hg; cases hg

/-- The cells within a round. -/
def fgC (w : World) (N : Nat) (v u : Value) (acc : List Int) (W : World) : Prop :=
  Boxed W N 30 v ∧ W.ownsRow w.heap.size 5 1 v acc.length (acc.map (.int .u8)) ∧ Boxed W w.heap.size 30 (.slice none 0 0) ∧ Boxed W (w.heap.size + 1) 31 (.int .i64 0) ∧ Boxed W (w.heap.size + 1 + 1 + 1) 138 (.map (some (w.heap.size + 1 + 1))) ∧
  W.ownsMap Try.prog 5 (plainElem (H := Unit) Try.prog 3) (w.heap.size + 1 + 1) 45 (mapD 45) ∧ Boxed W (N + 1 + 1) 3 (.int .i64 3) ∧ Boxed W (N + 1) 30 u ∧ Below w.heap.size w W
theorem fgC_drew {w : World} {N : Nat} {v u : Value} {acc : List Int} {W : World} (h : fgC w N v u acc W) : fgC w N v u acc W.drew := ⟨h.1, h.2.1, h.2.2.1, h.2.2.2.1, h.2.2.2.2.1, h.2.2.2.2.2.1, h.2.2.2.2.2.2.1, h.2.2.2.2.2.2.2.1, bD h.2.2.2.2.2.2.2.2⟩
theorem sz_set (w : World) (a : Addr) (v : Value) : (w.setCell a v).heap.size = w.heap.size := by simp
theorem ko_drewR (W : World) : KeepsOthers W W.drew := ⟨Nat.le_refl _, fun _ _ h _ => h⟩

set_option maxHeartbeats 8000000 in
theorem fortyGet_any (A : Option Addr) (c : Nat) (l : List Int) (w : World) (hr : RdI w .u8 A l) (hlc : l.length ≤ c) (hc9 : c ≤ 9223372036854775807) (hb : ∀ x ∈ l, 0 ≤ x ∧ x < 256) (hl : l.length ≤ 140737488351232) :
    Calls Try.prog 86 #[.slice A l.length c] w (ByteRetE (fortyGet l) w) := by
  obtain ⟨i0, hi, hz0, hz1, hz2⟩ := info_parts infoU8
  refine (callsIn_wide (n := 4)).1 ?_
  refine callsIn_of_wp_marks Try.func86 rfl trivial ?_
  simp only [Try.ntmps86, List.size_toArray, List.length_cons, List.length_nil, Nat.reduceAdd, Nat.reduceSub, Array.replicate_succ, Array.replicate_zero, List.push_toArray, List.append_toArray, List.nil_append, List.cons_append]
  have hmm := @run_makeMap Try.prog
  by_cases h1 : l.length % 3 = 1
  · have hd : ((l.length : Int) % 3 == 1) = true := by rw [beq_iff_eq]; omega
    have E := Lib.hid (show fortyGet l = ([], 14) by unfold fortyGet; rw [if_pos h1])
    gi_wp2
    obtain ⟨x1, x2⟩ := alloc2_boxes w (.slice none 0 0) (.int .i64 14) 30 31
    exact fgOut rfl rfl x1 x2 E.out (World.ownsRow_nil _ _ _ _) ((by repeat (first | (with_reducible exact bR _) | (with_reducible refine bT ?_ (by assumption)) | (with_reducible apply bA) | (with_reducible apply bD) | (with_reducible apply bN) | (with_reducible refine bS ?_ (by first | omega | (simp; done) | (simp; omega))))))
  · have hd : ((l.length : Int) % 3 == 1) = false := by rw [beq_eq_false_iff_ne]; omega
    have E := Lib.hid (show fortyGet l = fortyGo l [] by unfold fortyGet; rw [if_neg h1])
    have hH1 := Lib.hid h1
    clear h1
    obtain ⟨W4, hW4⟩ : ∃ W4, (((w.alloc (.cells #[.slice none 0 0] 30)).alloc (.cells #[.int .i64 0] 31)).alloc (.map #[] 0)).alloc (.cells #[.map (some (w.heap.size + 1 + 1))] 138) = W4 := ⟨_, rfl⟩
    have hz4 : W4.heap.size = w.heap.size + 1 + 1 + 1 + 1 := by rw [← hW4]; simp
    obtain ⟨b0, b1, b3, bm⟩ : Boxed W4 w.heap.size 30 (.slice none 0 0) ∧ Boxed W4 (w.heap.size + 1) 31 (.int .i64 0) ∧ Boxed W4 (w.heap.size + 1 + 1 + 1) 138 (.map (some (w.heap.size + 1 + 1))) ∧ W4.ownsMap Try.prog 5 (plainElem (H := Unit) Try.prog 3) (w.heap.size + 1 + 1) 0 (mapD 0) := by
      rw [← hW4]
      obtain ⟨x1, x2⟩ := alloc2_boxes w (.slice none 0 0) (.int .i64 0) 30 31
      have y := World.ownsMap_made ((w.alloc (.cells #[.slice none 0 0] 30)).alloc (.cells #[.int .i64 0] 31)) Try.prog 5 (plainElem (H := Unit) Try.prog 3)
      have z := Boxed.new (((w.alloc (.cells #[.slice none 0 0] 30)).alloc (.cells #[.int .i64 0] 31)).alloc (.map #[] 0)) 138 (.map (some (w.heap.size + 1 + 1)))
      simp only [World.size_alloc] at y z
      exact ⟨((x1.alloc _).alloc _), ((x2.alloc _).alloc _), z, y.alloc _⟩
    have hbl4 : Below w.heap.size w W4 := by rw [← hW4]; exact (by repeat (first | (with_reducible exact bR _) | (with_reducible refine bT ?_ (by assumption)) | (with_reducible apply bA) | (with_reducible apply bD) | (with_reducible apply bN) | (with_reducible refine bS ?_ (by first | omega | (simp; done) | (simp; omega)))))
    gi_wp2
    gi_loopw [16] (fun i wr => ∃ k : Nat, k ≤ 45 ∧ i = .int .i64 k ∧ Boxed wr w.heap.size 30 (.slice none 0 0) ∧ Boxed wr (w.heap.size + 1) 31 (.int .i64 0) ∧ Boxed wr (w.heap.size + 1 + 1 + 1) 138 (.map (some (w.heap.size + 1 + 1))) ∧
      wr.ownsMap Try.prog 5 (plainElem (H := Unit) Try.prog 3) (w.heap.size + 1 + 1) k (mapD k) ∧ Below w.heap.size w wr ∧ w.heap.size + 4 ≤ wr.heap.size) (fun i _ => 45 - (intOf i).toNat)
    case atStart => exact ⟨0, by omega, rfl, b0, b1, b3, bm, hbl4, by omega⟩
    case round =>
      obtain ⟨k, hk, rfl, c0, c1, c3, cm, cb, cz⟩ := hrel
      by_cases hlt : k < 45
      · have hc3 := c3.cell
        have hix := fun w => idx_signs (z := (k : Int)) (by omega) (by omega) w
        have hsb := sg_byte (k : Int)
        have hwk : IntKind.i64.wrap ((k : Int) + 1) = (k : Int) + 1 := by rw [IntKind.wrap_i64]; omega
        obtain ⟨w1, hrun, hown1, hgrow1⟩ := cm.drew.update (t := 138) (e := 3) lawU8 Try.underlying138 (by unfold maxLen; omega) (key := .int .u8 (sg45 (k : Int))) (val := .int .i64 ((k : Int) + 1)) (keyOf_int_mk Try.underlying5 (wf_u8 hsb.1 hsb.2)) (plainElem_int Try.underlying3 (WalkArith.wf_i64 (by omega)))
        have HM := Lib.hid hown1
        clear hown1 cm
        obtain ⟨sv, hsv⟩ : ∃ sv, sg45 (k : Int) = sv := ⟨_, rfl⟩
        rw [hsv] at hix hrun hsb
        clear hsv
        gi_wp2
        refine wpIn_wide.2 ?_
        have hS1 : wr.drew.cell? ⟨w.heap.size + 1 + 1 + 1, 0, none⟩ = some (.map (some (w.heap.size + 1 + 1))) := hc3
        have hS2 : w1.cell? ⟨w.heap.size + 1 + 1 + 1, 0, none⟩ = some (.map (some (w.heap.size + 1 + 1))) := (Boxed.kept (W := wr.drew) c3 hgrow1 (fun e => by have := Option.some.inj e; omega)).cell
        go_region_held3 (fun w9 => w9.cell? ⟨w.heap.size + 1 + 1 + 1, 0, none⟩ = some (.map (some (w.heap.size + 1 + 1)))) (assumption) (fail)
        all_goals
          gi_wp2
          exact ⟨⟨k + 1, by omega, by go_num, Boxed.kept (W := wr.drew) c0 hgrow1 (fun e => by have := Option.some.inj e; omega), Boxed.kept (W := wr.drew) c1 hgrow1 (fun e => by have := Option.some.inj e; omega), Boxed.kept (W := wr.drew) c3 hgrow1 (fun e => by have := Option.some.inj e; omega), HM.out, (bD cb).grown hgrow1 cb.size (fun j e => by have := Option.some.inj e; omega), by have := hgrow1.size; simp at this; omega⟩, by simp [intOf]; omega⟩
      · obtain rfl : k = 45 := by omega
        obtain ⟨N, hN⟩ : ∃ N, wr.heap.size = N := ⟨_, rfl⟩
        have hN4 : w.heap.size + 4 ≤ N := by omega
        obtain ⟨W7, hW7⟩ : ∃ W7, ((wr.alloc (.cells #[.slice none 0 0] 30)).alloc (.cells #[.slice A l.length c] 30)).alloc (.cells #[.int .i64 3] 3) = W7 := ⟨_, rfl⟩
        have hz7 : W7.heap.size = N + 3 := by rw [← hW7, ← hN]; simp
        have hI0 : fgI w N l 0 W7 := by
          rw [← hW7]
          obtain ⟨y1, y2⟩ := alloc2_boxes wr (.slice none 0 0) (.slice A l.length c) 30 30
          have z := Boxed.new ((wr.alloc (.cells #[.slice none 0 0] 30)).alloc (.cells #[.slice A l.length c] 30)) 3 (.int .i64 3)
          simp only [World.size_alloc] at z
          rw [hN] at y1 y2 z
          exact ⟨⟨_, [], y1.alloc _, World.ownsRow_nil _ _ _ _, by simp, Lib.hid (by simp)⟩, ((c0.alloc _).alloc _).alloc _, ((c1.alloc _).alloc _).alloc _, ((c3.alloc _).alloc _).alloc _, ((cm.alloc _).alloc _).alloc _, z, ⟨_, y2.alloc _⟩, ((cb.alloc cb.size _).alloc (by simp; have := cb.size; omega) _).alloc (by simp; have := cb.size; omega) _⟩
        have hb57 : Boxed W7 (N + 1) 30 (.slice A l.length c) := by
          rw [← hW7]
          obtain ⟨y1, y2⟩ := alloc2_boxes wr (.slice none 0 0) (.slice A l.length c) 30 30
          rw [hN] at y2
          exact y2.alloc _
        have hblw := cb
        clear c0 c1 c3 cm cb b0 b1 b3 bm hbl4 hz4 hW4
        gi_wp2_with (refine ⟨trivial, ?_⟩; gi_at_call 78; (with_reducible refine (callsIn_wide.2 (groups_any _ _ _ _ _)).mono ?_); rintro e w' ⟨rfl, rfl⟩)
        refine my_seq (gf := 119) rfl (enters_of Try.func119 (by kernel_rfl) rfl) ((l.length + 2) / 3)
          (fun W W' => ∀ u, Boxed W (N + 1) 30 u → Boxed W' (N + 1) 30 u) (fun h1 h2 u h => h2 u (h1 u h)) ?hKb
          (fgI w N l) (fgX w l) (by rw [hz7]; exact fgI_own w N l hN4) (by rw [hz7]; exact fgX_own w N l hN4) ?h0 ?hseq ?hdone ?hstop
        case hKb =>
          intro W L o o' hL hl' ho u hu
          exact hu.kept (grownBy_putObj' W L o') (fun e => by cases e; rw [show W.heap[_]? = _ from hu] at hl'; cases hl'; cases ho)
        case h0 => exact hI0
        case hseq =>
          intro L J Jx W1 hJI hJset hround hJ0 hb1
          refine fiter3_any (4 - 1) L (N + 1) (N + 1 + 1) ((l.length + 2) / 3) (by omega) A c l w hr hlc hc9 rfl J Jx (fun k W h => ⟨(hJI k W h).2.2.2.2.2.2.2, (hJI k W h).2.2.2.2.2.1⟩) (fun k W v h => hJset k W _ v h (fgI_set hN4 v (hJI k W h))) ?_ W1 hJ0 ?_
          · intro j A' c' m q W hJ hB hra hq hp hm
            have HMM := Lib.hid hm
            clear hm
            refine (hround j #[.slice A' m c'] W rfl hJ ⟨?a1, ?asg, ?bod⟩).mono ?_
            case asg =>
              intro W K hK
              gi_wp2
              exact hK
            case bod =>
              rintro Wb ⟨⟨v, acc, hv, ho, ha, hg0⟩, h0, h1, h3, hmp, h6, ⟨u, h5⟩, hbW⟩ hKp
              have hgb : ∀ z ∈ q.take m, 0 ≤ z ∧ z < 256 := fun z hz => hb z (List.mem_of_mem_drop (by rw [hq]; exact List.mem_of_mem_take hz))
              have hgl : (q.take m).length = m := by rw [List.length_take]; have := HMM.out; omega
              have hql : q.length = l.length - 3 * j := by rw [← hq, List.length_drop]
              have hrb := (hra.below hbW).take m
              have hm2 : m = 2 ∨ m = 3 := by have := HMM.out; have := hH1.out; omega
              have hst := hg0.out
              rw [hq] at hst
              have HST := Lib.hid hst
              have hjl : 3 * j < l.length := by omega
              clear hst hg0
              obtain ⟨g, hg⟩ : ∃ g, q.take m = g := ⟨_, rfl⟩
              rw [hg] at hgb hgl hrb
              have HG := Lib.hid hg
              have HQ := Lib.hid hq
              have HQL := Lib.hid hql
              clear hg hq hql
              have hC := (⟨hv, ho, h0, h1, h3, hmp, h6, h5, hbW⟩ : fgC w N v u acc Wb)
              clear hv ho h0 h1 h3 hmp h6 h5
              gi_wp2
              gi_loopw [8, 9] (fun s i wr => ∃ (k : Nat) (n : Int), k ≤ m ∧ i = .int .i64 ((k : Int) - 1) ∧ s = .int .i64 n ∧ Hid (nGo (g.take k).reverse n = nGo g.reverse 0) ∧ 0 ≤ n ∧ (k = m → n = 0) ∧ (k + 1 = m → n < 45) ∧ (k + 2 = m → n < 2025) ∧ n < 91125 ∧
                fgC w N v u acc wr ∧ RdI wr .u8 A' g ∧ KeepsOthers Wb wr ∧ (∀ u, Boxed Wb (N + 1) 30 u → Boxed wr (N + 1) 30 u)) (fun _ i _ => (intOf i + 1).toNat)
              case atStart => exact ⟨m, 0, Nat.le_refl _, by go_num, rfl, Lib.hid (by rw [List.take_of_length_le (by omega)]), by omega, fun _ => rfl, fun _ => by omega, fun _ => by omega, by omega, hC, hrb, KeepsOthers.refl _, fun _ h => h⟩
              case round =>
                obtain ⟨k, n, hk, rfl, rfl, hg, n0, n1, n2, n3, n4, hC2, hrb2, hKO, hKp2⟩ := hrel
                have hC3 := hC2
                obtain ⟨hv, ho, h0, h1, h3, hmp, h6, h5, hbW2⟩ := hC3
                have hc0 := h0.cell
                have hf0 := h0.frozen
                have hc1 := h1.cell
                have hf1 := h1.frozen
                have hc3 := h3.cell
                have hcv := hv.cell
                have hfv := hv.frozen
                by_cases hlt : 0 < k
                · obtain ⟨k, rfl⟩ : ∃ k', k = k' + 1 := ⟨k - 1, by omega⟩
                  obtain ⟨bd, rfl, hc⟩ := hrb2.at_ (j := k) (by omega)
                  have hki : (k : Int) < (m : Int) := by omega
                  have hk0 : (0 : Int) ≤ (k : Int) := by omega
                  have e := hg.out
                  rw [take_rev (by omega), nGo_cons] at e
                  have hx := hgb _ (getD_mem (l := g) (k := k) (by omega))
                  have hvd := val_dg hx.1 hx.2
                  have hat := mapD_at (g.getD k 0) 45
                  obtain ⟨cc, hrun, hat2, hwc⟩ := hmp.drew.lookup_int (t := 138) lawU8 Try.underlying138 Try.underlying3 (zeroI _) (key := .int .u8 (g.getD k 0)) (keyOf_int_mk Try.underlying5 (wf_u8 hx.1 hx.2))
                  have hcc : cc = dg45 (g.getD k 0) + 1 := by
                    rw [hat] at hat2
                    injection hat2 with h1
                    injection h1 with _ h2
                    rw [← h2]; exact hvd
                  have hdl := dg_le (g.getD k 0)
                  have hdg := dg_ge (g.getD k 0)
                  clear hvd hat hat2
                  generalize g.getD k 0 = x at *
                  have HE := Lib.hid e
                  clear e hg
                  by_cases hneg : dg45 x < 0
                  · have hcz : cc = 0 := by omega
                    have e := HE.out
                    rw [if_pos hneg] at e
                    have HX := Lib.hid (HST.out.symm.trans (get_none HMM.out hm2 HG.out e.symm)).symm
                    clear e HE hcc hdl hdg hneg hwc
                    subst hcz
                    gi_wp2
                    refine wpIn_region_held_round (fun w9 => w9.cell? ⟨w.heap.size + 1 + 1 + 1, 0, none⟩ = some (.map (some (w.heap.size + 1 + 1))) ∧ w9.cell? (bd.add k) = some (.int .u8 x)) (by kernel_rfl) (by kernel_rfl) ⟨hc3, hc⟩ (fun hHeld => ?_)
                    refine wpAnyH_take (i := 0) (oi := ?_) (v := ?_) ?hiu1 (by as_aux_lemma => kernel_rfl) (by as_aux_lemma => kernel_rfl) (by as_aux_lemma => kernel_rfl) ?hQu1 (Or.inl ⟨?hwu1, ?hyu1⟩) hHeld ?restu1
                    case hiu1 => simp only [List.getElem?_toArray, List.getElem?_cons_zero, List.getElem?_cons_succ]; rfl
                    case hwu1 => rfl
                    case hyu1 => (intro w9 hSw; (try dsimp only at hSw); go_simp; (try with_reducible rfl))
                    case hQu1 => exact fun _ _ _ h => h
                    (try simp only [Act.put, List.setIfInBounds_toArray, List.set_cons_zero, List.set_cons_succ])
                    refine wpAnyH_take (i := 1) (oi := ?_) (v := ?_) ?hiu2 (by as_aux_lemma => kernel_rfl) (by as_aux_lemma => kernel_rfl) (by as_aux_lemma => kernel_rfl) ?hQu2 (Or.inl ⟨?hwu2, ?hyu2⟩) hHeld ?restu2
                    case hiu2 => simp only [List.getElem?_toArray, List.getElem?_cons_zero, List.getElem?_cons_succ]; rfl
                    case hwu2 => rfl
                    case hyu2 => (intro w9 hSw; (try dsimp only at hSw); go_simp; (try with_reducible rfl))
                    case hQu2 => exact fun _ _ _ h => h
                    (try simp only [Act.put, List.setIfInBounds_toArray, List.set_cons_zero, List.set_cons_succ])
                    refine wpAnyH_take (i := 2) (oi := ?_) (v := ?_) ?hiu3 (by as_aux_lemma => kernel_rfl) (by as_aux_lemma => kernel_rfl) (by as_aux_lemma => kernel_rfl) ?hQu3 (Or.inl ⟨?hwu3, ?hyu3⟩) hHeld ?restu3
                    case hiu3 => simp only [List.getElem?_toArray, List.getElem?_cons_zero, List.getElem?_cons_succ]; rfl
                    case hwu3 => rfl
                    case hyu3 => (intro w9 hSw; (try dsimp only at hSw); go_simp; (try with_reducible rfl))
                    case hQu3 => exact fun _ _ _ h => h
                    (try simp only [Act.put, List.setIfInBounds_toArray, List.set_cons_zero, List.set_cons_succ])
                    refine wpAnyH_take (i := 3) (oi := ?_) (v := ?_) ?hiu4 (by as_aux_lemma => kernel_rfl) (by as_aux_lemma => kernel_rfl) (by as_aux_lemma => kernel_rfl) ?hQu4 (Or.inl ⟨?hwu4, ?hyu4⟩) hHeld ?restu4
                    case hiu4 => simp only [List.getElem?_toArray, List.getElem?_cons_zero, List.getElem?_cons_succ]; rfl
                    case hwu4 => rfl
                    case hyu4 => (intro w9 hSw; (try dsimp only at hSw); go_simp; (try with_reducible rfl))
                    case hQu4 => exact fun _ _ _ h => h
                    (try simp only [Act.put, List.setIfInBounds_toArray, List.set_cons_zero, List.set_cons_succ])
                    refine wpAnyH_take (i := 4) (oi := ?_) (v := ?_) ?hiu5 (by as_aux_lemma => kernel_rfl) (by as_aux_lemma => kernel_rfl) (by as_aux_lemma => kernel_rfl) ?hQu5 (Or.inl ⟨?hwu5, ?hyu5⟩) hHeld ?restu5
                    case hiu5 => simp only [List.getElem?_toArray, List.getElem?_cons_zero, List.getElem?_cons_succ]; rfl
                    case hwu5 => rfl
                    case hyu5 => (intro w9 hSw; (try dsimp only at hSw); go_simp; (try with_reducible rfl))
                    case hQu5 => exact fun _ _ _ h => h
                    (try simp only [Act.put, List.setIfInBounds_toArray, List.set_cons_zero, List.set_cons_succ])
                    refine wpAnyH_ready (rs := [5]) (by as_aux_lemma => kernel_rfl) (by simp) (AllReadyH.cons (o := ?_) ?hiu6 (fun K hK => ?_) AllReadyH.nil)
                    case hiu6 => simp only [List.getElem?_toArray, List.getElem?_cons_zero, List.getElem?_cons_succ]; rfl
                    go_simp
                    refine hK.out _ _ ?_ (fun hHeld => ?_)
                    · (first | assumption | exact ⟨hc3, hc⟩)
                    clear hK K
                    (try simp only [Act.put, List.setIfInBounds_toArray, List.set_cons_zero, List.set_cons_succ])
                    refine wpAnyH_take (i := 6) (oi := ?_) (v := ?_) ?hiu7 (by as_aux_lemma => kernel_rfl) (by as_aux_lemma => kernel_rfl) (by as_aux_lemma => kernel_rfl) ?hQu7 (Or.inl ⟨?hwu7, ?hyu7⟩) hHeld ?restu7
                    case hiu7 => simp only [List.getElem?_toArray, List.getElem?_cons_zero, List.getElem?_cons_succ]; rfl
                    case hwu7 => rfl
                    case hyu7 => (intro w9 hSw; (try dsimp only at hSw); go_simp; (try with_reducible rfl))
                    case hQu7 => exact fun _ _ _ h => h
                    (try simp only [Act.put, List.setIfInBounds_toArray, List.set_cons_zero, List.set_cons_succ])
                    refine wpAnyH_done (by as_aux_lemma => kernel_rfl) ?_ _
                    dsimp only [onlyN]
                    gi_wp2
                    refine ⟨((hKO.trans ((KeepsOthers.setCell _ _ _).trans (KeepsOthers.setCell _ _ _))).trans (ko_drewR _)).from _, ?_⟩
                    exact ⟨(h0.set _).other (by omega) _, ⟨7, Lib.hid HX.out, (h1.other (by omega) _).set _⟩, bD ((hbW2.setCell (p := ⟨w.heap.size, 0, none⟩) (Nat.le_refl _) _).setCell (p := ⟨w.heap.size + 1, 0, none⟩) (show w.heap.size ≤ w.heap.size + 1 by omega) _)⟩
                  · have e := HE.out
                    rw [if_neg hneg] at e
                    have HX := Lib.hid e
                    clear e HE
                    obtain ⟨y, hy⟩ : ∃ y, dg45 x = y := ⟨_, rfl⟩
                    rw [hy] at hcc hdl hdg hneg HX
                    clear hy
                    subst hcc
                    have hcz : (y + 1 == 0) = false := by rw [beq_eq_false_iff_ne]; omega
                    have hw1 : IntKind.i64.wrap (45 * n) = 45 * n := by rw [IntKind.wrap_i64]; omega
                    have hw2 : IntKind.i64.wrap (45 * n + (y + 1)) = 45 * n + (y + 1) := by rw [IntKind.wrap_i64]; omega
                    have hw3 : IntKind.i64.wrap (45 * n + (y + 1) - 1) = 45 * n + (y + 1) - 1 := by rw [IntKind.wrap_i64]; omega
                    gi_wp2
                    refine wpIn_region_held_round (fun w9 => w9.cell? ⟨w.heap.size + 1 + 1 + 1, 0, none⟩ = some (.map (some (w.heap.size + 1 + 1))) ∧ w9.cell? (bd.add k) = some (.int .u8 x)) (by kernel_rfl) (by kernel_rfl) ⟨hc3, hc⟩ (fun hHeld => ?_)
                    refine wpAnyH_take (i := 0) (oi := ?_) (v := ?_) ?hiu8 (by as_aux_lemma => kernel_rfl) (by as_aux_lemma => kernel_rfl) (by as_aux_lemma => kernel_rfl) ?hQu8 (Or.inl ⟨?hwu8, ?hyu8⟩) hHeld ?restu8
                    case hiu8 => simp only [List.getElem?_toArray, List.getElem?_cons_zero, List.getElem?_cons_succ]; rfl
                    case hwu8 => rfl
                    case hyu8 => (intro w9 hSw; (try dsimp only at hSw); go_simp; (try with_reducible rfl))
                    case hQu8 => exact fun _ _ _ h => h
                    (try simp only [Act.put, List.setIfInBounds_toArray, List.set_cons_zero, List.set_cons_succ])
                    refine wpAnyH_take (i := 1) (oi := ?_) (v := ?_) ?hiu9 (by as_aux_lemma => kernel_rfl) (by as_aux_lemma => kernel_rfl) (by as_aux_lemma => kernel_rfl) ?hQu9 (Or.inl ⟨?hwu9, ?hyu9⟩) hHeld ?restu9
                    case hiu9 => simp only [List.getElem?_toArray, List.getElem?_cons_zero, List.getElem?_cons_succ]; rfl
                    case hwu9 => rfl
                    case hyu9 => (intro w9 hSw; (try dsimp only at hSw); go_simp; (try with_reducible rfl))
                    case hQu9 => exact fun _ _ _ h => h
                    (try simp only [Act.put, List.setIfInBounds_toArray, List.set_cons_zero, List.set_cons_succ])
                    refine wpAnyH_take (i := 2) (oi := ?_) (v := ?_) ?hiu10 (by as_aux_lemma => kernel_rfl) (by as_aux_lemma => kernel_rfl) (by as_aux_lemma => kernel_rfl) ?hQu10 (Or.inl ⟨?hwu10, ?hyu10⟩) hHeld ?restu10
                    case hiu10 => simp only [List.getElem?_toArray, List.getElem?_cons_zero, List.getElem?_cons_succ]; rfl
                    case hwu10 => rfl
                    case hyu10 => (intro w9 hSw; (try dsimp only at hSw); go_simp; (try with_reducible rfl))
                    case hQu10 => exact fun _ _ _ h => h
                    (try simp only [Act.put, List.setIfInBounds_toArray, List.set_cons_zero, List.set_cons_succ])
                    refine wpAnyH_take (i := 3) (oi := ?_) (v := ?_) ?hiu11 (by as_aux_lemma => kernel_rfl) (by as_aux_lemma => kernel_rfl) (by as_aux_lemma => kernel_rfl) ?hQu11 (Or.inl ⟨?hwu11, ?hyu11⟩) hHeld ?restu11
                    case hiu11 => simp only [List.getElem?_toArray, List.getElem?_cons_zero, List.getElem?_cons_succ]; rfl
                    case hwu11 => rfl
                    case hyu11 => (intro w9 hSw; (try dsimp only at hSw); go_simp; (try with_reducible rfl))
                    case hQu11 => exact fun _ _ _ h => h
                    (try simp only [Act.put, List.setIfInBounds_toArray, List.set_cons_zero, List.set_cons_succ])
                    refine wpAnyH_take (i := 4) (oi := ?_) (v := ?_) ?hiu12 (by as_aux_lemma => kernel_rfl) (by as_aux_lemma => kernel_rfl) (by as_aux_lemma => kernel_rfl) ?hQu12 (Or.inl ⟨?hwu12, ?hyu12⟩) hHeld ?restu12
                    case hiu12 => simp only [List.getElem?_toArray, List.getElem?_cons_zero, List.getElem?_cons_succ]; rfl
                    case hwu12 => rfl
                    case hyu12 => (intro w9 hSw; (try dsimp only at hSw); go_simp; (try with_reducible rfl))
                    case hQu12 => exact fun _ _ _ h => h
                    (try simp only [Act.put, List.setIfInBounds_toArray, List.set_cons_zero, List.set_cons_succ])
                    refine wpAnyH_ready (rs := [5]) (by as_aux_lemma => kernel_rfl) (by simp) (AllReadyH.cons (o := ?_) ?hiu13 (fun K hK => ?_) AllReadyH.nil)
                    case hiu13 => simp only [List.getElem?_toArray, List.getElem?_cons_zero, List.getElem?_cons_succ]; rfl
                    go_simp
                    refine hK.out _ _ ?_ (fun hHeld => ?_)
                    · (first | assumption | exact ⟨hc3, hc⟩)
                    clear hK K
                    (try simp only [Act.put, List.setIfInBounds_toArray, List.set_cons_zero, List.set_cons_succ])
                    refine wpAnyH_take (i := 6) (oi := ?_) (v := ?_) ?hiu14 (by as_aux_lemma => kernel_rfl) (by as_aux_lemma => kernel_rfl) (by as_aux_lemma => kernel_rfl) ?hQu14 (Or.inl ⟨?hwu14, ?hyu14⟩) hHeld ?restu14
                    case hiu14 => simp only [List.getElem?_toArray, List.getElem?_cons_zero, List.getElem?_cons_succ]; rfl
                    case hwu14 => rfl
                    case hyu14 => (intro w9 hSw; (try dsimp only at hSw); go_simp; (try with_reducible rfl))
                    case hQu14 => exact fun _ _ _ h => h
                    (try simp only [Act.put, List.setIfInBounds_toArray, List.set_cons_zero, List.set_cons_succ])
                    refine wpAnyH_done (by as_aux_lemma => kernel_rfl) ?_ _
                    dsimp only [onlyN]
                    gi_wp2
                    exact ⟨⟨k, 45 * n + y, by omega, rfl, by go_num, HX, by omega, fun h => by omega, fun h => by have := n1 (by omega); omega, fun h => by have := n2 (by omega); omega, by omega, fgC_drew hC2, hrb2.below (Below.refl _ _).drew, hKO.trans (ko_drewR _), fun u hu => hKp2 u hu⟩, by first | (simp [intOf]; done) | (simp [intOf]; omega)⟩
                · obtain rfl : k = 0 := by omega
                  have e := hg.out
                  rw [show (List.take 0 g).reverse = [] from rfl, show nGo [] n = some n from rfl] at e
                  have HN := Lib.hid e.symm
                  clear e hg
                  rcases hm2 with rfl | rfl
                  · by_cases hov : 255 < n
                    · have HX := Lib.hid (HST.out.symm.trans (get_over HMM.out HG.out HN.out (.inl ⟨rfl, hov⟩))).symm
                      gi_wp2
                      refine ⟨(hKO.trans ((KeepsOthers.setCell _ _ _).trans (KeepsOthers.setCell _ _ _))).from _, ?_⟩
                      exact ⟨(h0.set _).other (by omega) _, ⟨23, Lib.hid HX.out, (h1.other (by omega) _).set _⟩, ((hbW2.setCell (p := ⟨w.heap.size, 0, none⟩) (Nat.le_refl _) _).setCell (p := ⟨w.heap.size + 1, 0, none⟩) (show w.heap.size ≤ w.heap.size + 1 by omega) _)⟩
                    · have HX := Lib.hid (HST.out.symm.trans (get_ok2 HMM.out HG.out HN.out hov)).symm
                      have hzz := hbW2.size
                      have tok1 : True := trivial
                      gi_wp2_with (gi_at_builtin; have _t := tok1; refine wpListIn_append_own _ rfl _ _ 30 rfl w.heap.size 5 i0 (.int .u8 0) 1 1 Try.underlying30 hi hz0 hz1 hz2 rfl (by decide) _ _ _ rfl (ho.alloc _) ⟨wr.heap.size, 0, none⟩ 1 1 [.int .u8 n] rfl rfl (cell_one_new _ _ _) (by simp [Value.oneCell']) (maxLen_big (by omega)) (by omega) (by simp; omega) ?_; intro v' w1 hown' hgrow _; clear tok1; obtain ⟨g', cap', rfl⟩ := ownsRow_succ hown'; obtain ⟨hv1, hv2, hr2, hk2, hb2⟩ := hv.appended (by decide) ho hbW2.size (show w.heap.size ≤ N by omega) hown' hgrow; have hx1 := hv1.cell; have hx2 := hv1.frozen; have h0' := boxed_across h0 (by decide) ho hgrow (show w.heap.size ≠ N by omega) (.slice (some ⟨g', 0, none⟩) (acc.length + 1) cap'); have h1' := boxed_across h1 (by decide) ho hgrow (show w.heap.size + 1 ≠ N by omega) (.slice (some ⟨g', 0, none⟩) (acc.length + 1) cap'); have h3' := boxed_across h3 (by decide) ho hgrow (show w.heap.size + 1 + 1 + 1 ≠ N by omega) (.slice (some ⟨g', 0, none⟩) (acc.length + 1) cap'); have hm' := map_across hmp ho hgrow (show w.heap.size + 1 + 1 ≠ N by omega) (.slice (some ⟨g', 0, none⟩) (acc.length + 1) cap'); have h6' := boxed_across h6 (by decide) ho hgrow (show N + 1 + 1 ≠ N by omega) (.slice (some ⟨g', 0, none⟩) (acc.length + 1) cap'); have h5' := boxed_across h5 (by decide) ho hgrow (show N + 1 ≠ N by omega) (.slice (some ⟨g', 0, none⟩) (acc.length + 1) cap'))
                      refine ⟨(hKO.trans hk2).from _, fun u' hu' => boxed_across (hKp2 u' hu') (by decide) ho hgrow (show N + 1 ≠ N by omega) _, ⟨_, acc ++ [n], hv2, by simpa using hr2, by rw [List.length_append]; simp; omega, Lib.hid ?_⟩, h0', h1', h3', hm', h6', ⟨_, h5'⟩, hbW2.trans hb2⟩
                      have e := HX.out
                      rw [show l.drop (3 * (j + 1)) = q.drop 3 by rw [← HQ.out, List.drop_drop, show 3 * j + 3 = 3 * (j + 1) by omega]]
                      exact e
                  · by_cases hov : 65535 < n
                    · have HX := Lib.hid (HST.out.symm.trans (get_over HMM.out HG.out HN.out (.inr ⟨rfl, hov⟩))).symm
                      gi_wp2
                      refine ⟨(hKO.trans ((KeepsOthers.setCell _ _ _).trans (KeepsOthers.setCell _ _ _))).from _, ?_⟩
                      exact ⟨(h0.set _).other (by omega) _, ⟨23, Lib.hid HX.out, (h1.other (by omega) _).set _⟩, ((hbW2.setCell (p := ⟨w.heap.size, 0, none⟩) (Nat.le_refl _) _).setCell (p := ⟨w.heap.size + 1, 0, none⟩) (show w.heap.size ≤ w.heap.size + 1 by omega) _)⟩
                    · have HX := Lib.hid (HST.out.symm.trans (get_ok3 HMM.out HG.out HN.out hov)).symm
                      have hzz := hbW2.size
                      have tok1 : True := trivial
                      have tok2 : True := trivial
                      gi_wp2_with (first | (gi_at_builtin; have _t := tok1; refine wpListIn_append_own _ rfl _ _ 30 rfl w.heap.size 5 i0 (.int .u8 0) 1 1 Try.underlying30 hi hz0 hz1 hz2 rfl (by decide) _ _ _ rfl (ho.alloc _) ⟨wr.heap.size, 0, none⟩ 1 1 [.int .u8 (n / 256)] rfl rfl (cell_one_new _ _ _) (by simp [Value.oneCell']) (maxLen_big (by omega)) (by omega) (by simp; omega) ?_; intro v' w1 hown' hgrow _; clear tok1; obtain ⟨g', cap', rfl⟩ := ownsRow_succ hown'; obtain ⟨hv1, hv2, hr2, hk2, hb2⟩ := hv.appended (by decide) ho hbW2.size (show w.heap.size ≤ N by omega) hown' hgrow; have hx1 := hv1.cell; have hx2 := hv1.frozen; have h0' := boxed_across h0 (by decide) ho hgrow (show w.heap.size ≠ N by omega) (.slice (some ⟨g', 0, none⟩) (acc.length + 1) cap'); have h1' := boxed_across h1 (by decide) ho hgrow (show w.heap.size + 1 ≠ N by omega) (.slice (some ⟨g', 0, none⟩) (acc.length + 1) cap'); have h3' := boxed_across h3 (by decide) ho hgrow (show w.heap.size + 1 + 1 + 1 ≠ N by omega) (.slice (some ⟨g', 0, none⟩) (acc.length + 1) cap'); have hm' := map_across hmp ho hgrow (show w.heap.size + 1 + 1 ≠ N by omega) (.slice (some ⟨g', 0, none⟩) (acc.length + 1) cap'); have h6' := boxed_across h6 (by decide) ho hgrow (show N + 1 + 1 ≠ N by omega) (.slice (some ⟨g', 0, none⟩) (acc.length + 1) cap'); have h5' := boxed_across h5 (by decide) ho hgrow (show N + 1 ≠ N by omega) (.slice (some ⟨g', 0, none⟩) (acc.length + 1) cap'); have hcn := cell_one_new (w1.setCell ⟨N, 0, none⟩ (.slice (some ⟨g', 0, none⟩) (acc.length + 1) cap')) (.int .u8 (n % 256)) 5; rw [sz_set] at hcn; have hr3 : (w1.setCell ⟨N, 0, none⟩ (.slice (some ⟨g', 0, none⟩) (acc.length + 1) cap')).ownsRow w.heap.size 5 1 (.slice (some ⟨g', 0, none⟩) (acc.length + 1) cap') (acc.length + 1) ((acc ++ [n / 256]).map (.int .u8)) := (by simpa using hr2); have hgN := Nat.le_trans hzz hk2.size) | (gi_at_builtin; have _t := tok2; refine wpListIn_append_own _ rfl _ _ 30 rfl w.heap.size 5 i0 (.int .u8 0) 1 1 Try.underlying30 hi hz0 hz1 hz2 rfl (by decide) _ _ _ rfl (hr3.alloc _) ⟨w1.heap.size, 0, none⟩ 1 1 [.int .u8 (n % 256)] rfl rfl hcn (by simp [Value.oneCell']) (maxLen_big (by omega)) (by omega) (by simp; rw [sz_set] at hgN; omega) ?_; intro v2' w2 hown2 hgrow2 _; clear tok2; obtain ⟨g2, cap2, rfl⟩ := ownsRow_succ hown2; obtain ⟨hv3, hv4, hr4, hk4, hb4⟩ := hv2.appended (by decide) hr3 hgN (show w.heap.size ≤ N by omega) hown2 hgrow2; have hx3 := hv3.cell; have hx4 := hv3.frozen; have h0'' := boxed_across h0' (by decide) hr3 hgrow2 (show w.heap.size ≠ N by omega) (.slice (some ⟨g2, 0, none⟩) (acc.length + 1 + 1) cap2); have h1'' := boxed_across h1' (by decide) hr3 hgrow2 (show w.heap.size + 1 ≠ N by omega) (.slice (some ⟨g2, 0, none⟩) (acc.length + 1 + 1) cap2); have h3'' := boxed_across h3' (by decide) hr3 hgrow2 (show w.heap.size + 1 + 1 + 1 ≠ N by omega) (.slice (some ⟨g2, 0, none⟩) (acc.length + 1 + 1) cap2); have hm'' := map_across hm' hr3 hgrow2 (show w.heap.size + 1 + 1 ≠ N by omega) (.slice (some ⟨g2, 0, none⟩) (acc.length + 1 + 1) cap2); have h6'' := boxed_across h6' (by decide) hr3 hgrow2 (show N + 1 + 1 ≠ N by omega) (.slice (some ⟨g2, 0, none⟩) (acc.length + 1 + 1) cap2); have h5'' := boxed_across h5' (by decide) hr3 hgrow2 (show N + 1 ≠ N by omega) (.slice (some ⟨g2, 0, none⟩) (acc.length + 1 + 1) cap2)))
                      refine ⟨(hKO.trans (hk2.trans hk4)).from _, fun u' hu' => boxed_across (boxed_across (hKp2 u' hu') (by decide) ho hgrow (show N + 1 ≠ N by omega) _) (by decide) hr3 hgrow2 (show N + 1 ≠ N by omega) _, ⟨_, acc ++ [n / 256, n % 256], hv4, by simpa using hr4, by rw [List.length_append]; simp; omega, Lib.hid ?_⟩, h0'', h1'', h3'', hm'', h6'', ⟨_, h5''⟩, hbW2.trans (hb2.trans hb4)⟩
                      have e := HX.out
                      rw [show l.drop (3 * (j + 1)) = q.drop 3 by rw [← HQ.out, List.drop_drop, show 3 * j + 3 = 3 * (j + 1) by omega]]
                      exact e
            · rintro e W' (⟨rfl, h1, h2⟩ | ⟨rfl, h1⟩)
              · exact .inl ⟨rfl, h1, h2 _ hB⟩
              · exact .inr ⟨rfl, h1⟩
          · exact (hb1.block _ (by rw [hz7]; omega)).trans hb57
        case hdone =>
          rintro D W hD ⟨⟨v, acc, hv, ho, ha, hg0⟩, h0, h1, h3, hmp, h6, ⟨u, h5⟩, hbW⟩ hK
          have hE := hg0.out
          rw [List.drop_eq_nil_of_le (by omega)] at hE
          have HE := Lib.hid (E.out.trans hE.symm)
          clear hE hg0
          have hc0 := h0.cell
          have hf0 := h0.frozen
          have hc1 := h1.cell
          have hf1 := h1.frozen
          have hcv := hv.cell
          have hfv := hv.frozen
          obtain ⟨A2, n2, c2, rfl⟩ : ∃ A2 n2 c2, v = .slice A2 n2 c2 := by
            rcases ho.2 with ⟨rfl, _⟩ | ⟨g, cap, cur, rfl, _⟩
            · exact ⟨_, _, _, rfl⟩
            · exact ⟨_, _, _, rfl⟩
          gi_wp2
          refine ⟨by simp, .inl ⟨_, _, rfl, run_takeDeferred (((KeepsOthers.setCell _ _ _).trans (KeepsOthers.setCell _ _ _)).same D _ hK rfl), ?_⟩⟩
          have hb3 : Below w.heap.size w ((W.setCell ⟨w.heap.size, 0, none⟩ (.slice A2 n2 c2)).setCell ⟨w.heap.size + 1, 0, none⟩ (.int .i64 0)) := (hbW.setCell (p := ⟨w.heap.size, 0, none⟩) (Nat.le_refl _) _).setCell (p := ⟨w.heap.size + 1, 0, none⟩) (show w.heap.size ≤ w.heap.size + 1 by omega) _
          have hK3 := ((KeepsOthers.setCell W ⟨w.heap.size, 0, none⟩ (.slice A2 n2 c2)).trans (KeepsOthers.setCell _ ⟨w.heap.size + 1, 0, none⟩ (.int .i64 0))).same D _ hK rfl
          have ho2 := ho.kept (grownBy_setCell' W _ (.slice A2 n2 c2)) (.inr (h0.not_row (by decide) ho).symm)
          have ho3 := ho2.kept (grownBy_setCell' _ _ (.int .i64 0)) (.inr ((h1.other (by omega) (.slice A2 n2 c2)).not_row (by decide) ho2).symm)
          refine fgOut rfl rfl ?_ ?_ HE.out (ownsRow_putObj ho3 _ hK3 rfl) (hb3.trans (belowK_b (w := w) (Nat.le_refl _) _ D _ _ (by omega) hK3 rfl rfl))
          · exact ((h0.set _).other (by omega) _).kept (grownBy_putObj' _ D _) (fun e => by cases e; omega)
          · exact ((h1.other (by omega) _).set _).kept (grownBy_putObj' _ D _) (fun e => by cases e; omega)
        case hstop =>
          rintro D W hD ⟨h0, ⟨e, he, h1⟩, hbW⟩ hK
          gi_wp2
          refine ⟨by simp, .inl ⟨_, _, rfl, run_takeDeferred hK, ?_⟩⟩
          refine fgOut rfl rfl ?_ ?_ (E.out.trans he.out.symm) (World.ownsRow_nil _ _ _ _) (hbW.trans (belowK_b (w := w) (Nat.le_refl _) _ D _ _ (by omega) hK rfl rfl))
          · exact h0.kept (grownBy_putObj' _ D _) (fun e => by cases e; omega)
          · exact h1.kept (grownBy_putObj' _ D _) (fun e => by cases e; omega)
end Go.Proofs.Ytachkhjbckapoaa

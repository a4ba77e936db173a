/- Layer 15: what stripe.Decode computes. No condition. -/
import Derived.Test.YtachkhjbckapoaaT38
import Derived.Test.YtachkhjbckapoaaT19
namespace Go.Proofs.Ytachkhjbckapoaa
open Go.RowKit
set_option linter.unusedVariables false
set_option maxRecDepth 100000
set_option linter.unusedSimpArgs false

/-- What digits and a tag say. -/
def decT (ks : List Ky) (d t : List Int) : List Int × Int :=
  if (layG d).2 ≠ 0 then (zeroC, (layG d).2) else match findE ks ((layG d).1.getD 11 0) with
    | (none, e) => (zeroC, e)
    | (some k, _) => if (t == tagS k.sec d) = true then ((layG d).1, 0) else (zeroC, 11)
/-- What stripe.Decode computes. -/
def decS (ks : List Ky) (b : List Int) : List Int × Int :=
  if ringB ks = false then (zeroC, 1) else if (swipeRd b).2.2 ≠ 0 then (zeroC, (swipeRd b).2.2) else if (swipeRd b).1.length < 10 then (zeroC, 14)
  else decT ks ((swipeRd b).1.take ((swipeRd b).1.length - 10)) ((swipeRd b).1.drop ((swipeRd b).1.length - 10))
def rdC (l : List Int) : Array Value := (l.map (Value.int .i64)).toArray
theorem rdC_one (l : List Int) : (rdC l).all (·.oneCell') = true := all_one (one_ints .i64 l)
theorem rdC_size {l : List Int} (h : l.length = 15) : (rdC l).size = 15 := by unfold rdC; simp [h]
theorem results_rowcell {P : Program} {fn : Func} {t u : Tmp} {T U ty : TypeId} (h : fn.results = #[.cell t T, .cell u U]) {d dU : TypeDesc} (hu : P.underlying T = some d) (hd : (match d with | .struct _ | .array _ _ => true | _ => false) = true)
    (hU : P.underlying U = some dU) (pU : (match dU with | .struct _ | .array _ _ => true | _ => false) = false)
    {tmps : Array Value} {g : Nat} {q : Addr} {v : Value} {cs : Array Value} {fr : Nat × Nat} (hp : tmps.getD t undef = .pointer (some ⟨g, 0, none⟩)) (hv : tmps.getD u undef = .pointer (some q)) {w : World} (hg : w.heap[g]? = some (.cells cs ty fr)) (hi : (P.info? T).map (·.size) = some cs.size) (hq : w.cell? q = some v) :
    (results fn tmps).run P w = .ok (.tuple #[.agg cs, v]) w := by
  have hl := run_loadVar_row (P := P) w g ty T cs fr d hg hu hd hi
  simp only [results, h, Array.mapM_eq_mapM_toList, List.mapM_cons, List.mapM_nil]
  simp [Sem.run_bind, hp, hv, asAddr, hl, loadVar_plain hU pU hq, Result.andThen]
theorem build_zero (w : World) : (Instr.build 28 #[]).run Try.prog w = .ok (.agg (rdC zeroC)) w := by kernel_rfl
set_option maxHeartbeats 1000000 in
theorem sdec_panicking (p q : Nat) (n : Int) (older : List PanicEntry) (w : World) (old : Array Value) (ho : old.size = 15) (v : Value) (hp : w.heap[p]? = some (.cells old 28 (0, 0))) (hq : Boxed w q 31 v) (hne : p ≠ q) :
    CallsD Try.prog 57 #[.pointer (some ⟨p, 0, none⟩), .pointer (some ⟨q, 0, none⟩)] (.panicking ({ v := .iface 31 (.int .i64 n), recovered := false } :: older)) w fun e u' w' =>
      e = .returned (.tuple #[]) ∧ u' = .panicking ({ v := .iface 31 (.int .i64 n), recovered := true } :: older) ∧ w' = (w.setRow p (rdC zeroC)).setCell ⟨q, 0, none⟩ (.int .i64 n) := by
  refine callsD_of_wpS Try.func57 rfl fun c₀ cs hu => ?_
  have hq1 : Boxed (w.setRow p (rdC zeroC)) q 31 v := (setRow_other w p q (rdC zeroC) hne.symm).trans hq
  have hc1 := hq1.cell
  have hf1 := hq1.frozen
  have hnq : ∀ (w : World), (binOp BinOp.neq 20 (.iface 31 (.int .i64 n)) .nilIface).run Try.prog w = .ok (.bool true) w := fun _ => rfl
  have hbz := build_zero
  clear hq hq1
  simp only [Try.ntmps57, List.size_toArray, List.length_cons, List.length_nil, Nat.reduceAdd, Nat.reduceSub, Array.replicate_succ, Array.replicate_zero, List.push_toArray, List.append_toArray, List.nil_append, List.cons_append]
  apply wpS_seq
  apply wpS_region
  simp [wpOpsS, go_sem, recoverD, hu, Try.ntmps57, Exit.thenS]
  refine wpS_of_wp ?_
  go_wp2_with (first | (go_at_call 58; (with_reducible refine (caught_any _ _).mono ?_); rintro e w' ⟨rfl, rfl⟩) | (refine wpList_store_row rfl 28 _ _ rfl p (rdC zeroC) rfl rfl 28 _ hp ?_ ?_ (rdC_one _) ?_; (focus (exact infoR)); (focus (rw [ho]; rfl))))
  exact ⟨rfl, _, rfl, _, results_none rfl _ _ _, rfl, rfl, rfl⟩
set_option maxHeartbeats 1000000 in
theorem sdec_idle (p q : Addr) (w : World) :
    CallsD Try.prog 57 #[.pointer (some p), .pointer (some q)] .returning w fun e u' w' => e = .returned (.tuple #[]) ∧ u' = .returning ∧ w' = w := by
  refine callsD_of_wpS Try.func57 rfl fun c₀ cs hu => ?_
  have hnq : ∀ (w : World), (binOp BinOp.neq 20 .nilIface .nilIface).run Try.prog w = .ok (.bool false) w := fun _ => rfl
  simp only [Try.ntmps57, List.size_toArray, List.length_cons, List.length_nil, Nat.reduceAdd, Nat.reduceSub, Array.replicate_succ, Array.replicate_zero, List.push_toArray, List.append_toArray, List.nil_append, List.cons_append]
  apply wpS_seq
  apply wpS_region
  simp [wpOpsS, go_sem, recoverD, hu, Try.ntmps57, Exit.thenS]
  refine wpS_of_wp ?_
  go_wp2
  exact ⟨rfl, .returning, by cases c₀; simp_all, _, results_none rfl _ _ _, rfl, rfl, rfl⟩
theorem sdec_out {r : List Int × Int} {w w' : World} {tmps : Array Value} (hp : tmps.getD 4 undef = .pointer (some ⟨w.heap.size, 0, none⟩)) (hq : tmps.getD 5 undef = .pointer (some ⟨w.heap.size + 1, 0, none⟩))
    (h1 : w'.heap[w.heap.size]? = some (.cells (rdC r.1) 28 (0, 0))) (hl : r.1.length = 15) (h2 : Boxed w' (w.heap.size + 1) 31 (.int .i64 r.2)) (hb : Below w.heap.size w w') :
    Leaves Try.prog Try.f22 tmps (GetRet r w) [] .returning w' :=
  ⟨_, results_rowcell rfl Try.underlying28 rfl Try.underlying31 rfl hp hq h1 (by rw [rdC_size hl]; exact infoR) h2.cell, rfl, hb⟩
theorem sdec_bad {r : List Int × Int} {w W : World} {tmps : Array Value} {z : Int} {v : Value} {old : Array Value} {ds : List Deferred} (hp : tmps.getD 4 undef = .pointer (some ⟨w.heap.size, 0, none⟩)) (hq : tmps.getD 5 undef = .pointer (some ⟨w.heap.size + 1, 0, none⟩))
    (h1 : W.heap[w.heap.size]? = some (.cells old 28 (0, 0))) (ho : old.size = 15) (h2 : Boxed W (w.heap.size + 1) 31 v) (hE : r = (zeroC, z)) (hb : Below w.heap.size w W)
    (hd : ds = [{ target := .fn (.func 57) #[.pointer (some ⟨w.heap.size, 0, none⟩), .pointer (some ⟨w.heap.size + 1, 0, none⟩)], args := #[] }]) :
    Leaves Try.prog Try.f22 tmps (GetRet r w) ds (.panicking [{ v := .iface 31 (.int .i64 z), recovered := false }]) W := by
  subst hE hd
  refine leaves_cons (f := 57) (args := #[.pointer (some ⟨w.heap.size, 0, none⟩), .pointer (some ⟨w.heap.size + 1, 0, none⟩)]) (by simp) (by simp [go_sem]) ?_
  refine (sdec_panicking w.heap.size (w.heap.size + 1) z [] _ _ ho _ h1 h2 (by omega)).mono ?_
  rintro e u' w' ⟨rfl, rfl, rfl⟩
  have h3 : Boxed (W.setRow w.heap.size (rdC zeroC)) (w.heap.size + 1) 31 v := (setRow_other W w.heap.size (w.heap.size + 1) (rdC zeroC) (by omega)).trans h2
  exact sdec_out (r := (zeroC, z)) hp hq ((Below.heap_setCell _ _ _ _ (by show w.heap.size ≠ w.heap.size + 1; omega)).trans (setRow_heap _ _ _ _ _ _ h1)) rfl (h3.set _) (bS (setRow_below hb (Nat.le_refl _)) (by omega))
theorem sdec_good {r : List Int × Int} {w W : World} {tmps : Array Value} {ds : List Deferred} (hp : tmps.getD 4 undef = .pointer (some ⟨w.heap.size, 0, none⟩)) (hq : tmps.getD 5 undef = .pointer (some ⟨w.heap.size + 1, 0, none⟩))
    (h1 : W.heap[w.heap.size]? = some (.cells (rdC r.1) 28 (0, 0))) (hl : r.1.length = 15) (h2 : Boxed W (w.heap.size + 1) 31 (.int .i64 r.2)) (hb : Below w.heap.size w W)
    (hd : ds = [{ target := .fn (.func 57) #[.pointer (some ⟨w.heap.size, 0, none⟩), .pointer (some ⟨w.heap.size + 1, 0, none⟩)], args := #[] }]) :
    Leaves Try.prog Try.f22 tmps (GetRet r w) ds .returning W := by
  subst hd
  refine leaves_cons (f := 57) (args := #[.pointer (some ⟨w.heap.size, 0, none⟩), .pointer (some ⟨w.heap.size + 1, 0, none⟩)]) (by simp) (by simp [go_sem]) ?_
  refine (sdec_idle _ _ _).mono ?_
  rintro e u' w' ⟨rfl, rfl, rfl⟩
  exact sdec_out hp hq h1 hl h2 hb
theorem swipe_9 (b : List Int) : ∀ x ∈ (swipeRd b).1, 0 ≤ x ∧ x ≤ 9 := by
  unfold swipeRd
  split
  · exact trackGet_byte
  · split
    · exact trackGet_byte
    · simp
theorem swipe_fail {b : List Int} (h : (swipeRd b).2.2 ≠ 0) : (swipeRd b).1 = [] := by
  unfold swipeRd at h ⊢
  split
  · rename_i h1; rw [if_pos h1] at h; exact absurd rfl h
  · split
    · rename_i h1 h2; rw [if_neg h1, if_pos h2] at h; exact absurd rfl h
    · rfl
theorem trackGet_77 (b : List Int) : (trackGet b).1.length ≤ 77 := by
  by_cases h : (trackGet b).2 = 0
  · have h1 := track_one (d := (trackGet b).1) (b := b) (Prod.ext rfl h)
    exact (trackPut_ok (fun x hx => (h1.2.1 x hx).1) h1.1).1
  · rw [trackGet_fail h]; simp
theorem swipe_77 (b : List Int) : (swipeRd b).1.length ≤ 77 := by
  unfold swipeRd
  split
  · exact trackGet_77 _
  · split
    · exact trackGet_77 _
    · simp
theorem own_setRow {w : World} {base e n size g : Nat} {v : Value} {xs : List Value} (h : w.ownsRow base e size v n xs) (cs : Array Value) (hg : g < base) : (w.setRow g cs).ownsRow base e size v n xs :=
  ⟨h.1, h.2.imp id fun ⟨k, cap, cur, e1, e2, e3, e4⟩ => ⟨k, cap, cur, e1, e2, (setRow_other w g k cs (by omega)).trans e3, e4⟩⟩
theorem own_setCell {w : World} {base e n size g j : Nat} {v u : Value} {xs : List Value} (h : w.ownsRow base e size v n xs) (hg : g < base) : (w.setCell ⟨g, j, none⟩ u).ownsRow base e size v n xs :=
  ⟨h.1, h.2.imp id fun ⟨k, cap, cur, e1, e2, e3, e4⟩ => ⟨k, cap, cur, e1, e2, (Below.heap_setCell w ⟨g, j, none⟩ u k (by show k ≠ g; omega)).trans e3, e4⟩⟩
theorem rdC_at {l : List Int} {j : Nat} (h : j < l.length) : (rdC l)[j]? = some (.int .i64 (l.getD j 0)) := by
  unfold rdC
  simp [List.getD_eq_getElem?_getD, h]
theorem sd_b {w7 w9 : World} {g n ck : Nat} {Bk : Option Addr} (h : w9.cell? ⟨g, 1, none⟩ = some (.slice Bk n ck) ∧ Below w7.heap.size w7 w9) : Below w7.heap.size w7 w9 := h.2
theorem sd_drew {w7 w9 : World} {g n ck : Nat} {Bk : Option Addr} (h : w9.cell? ⟨g, 1, none⟩ = some (.slice Bk n ck) ∧ Below w7.heap.size w7 w9) : w9.drew.cell? ⟨g, 1, none⟩ = some (.slice Bk n ck) ∧ Below w7.heap.size w7 w9.drew := ⟨h.1, bD h.2⟩
theorem sd_keep {w7 w9 w8 : World} {g n ck : Nat} {Bk : Option Addr} (h : w9.cell? ⟨g, 1, none⟩ = some (.slice Bk n ck) ∧ Below w7.heap.size w7 w9) (hb : Below w9.heap.size w9 w8) : w8.cell? ⟨g, 1, none⟩ = some (.slice Bk n ck) ∧ Below w7.heap.size w7 w8 := ⟨keep_cell hb h.1, bT h.2 hb⟩
theorem layGet_len (A : Option Addr) (c k : Nat) (l : List Int) (w : World) (hk : l.length = k) (hr : RdI w .u8 A l) (hlc : k ≤ c) (hc9 : c ≤ 9223372036854775807) (hb : ∀ x ∈ l, 0 ≤ x ∧ x < 256) :
    Calls Try.prog 60 #[.slice A k c] w fun e w' => e = .returned (.tuple #[.agg (rdC (layG l).1), .int .i64 (layG l).2]) ∧ Below w.heap.size w w' := by
  subst hk; exact layGet_any A c l w hr hlc hc9 hb
theorem sealSame_len2 (A B : Option Addr) (c d k j : Nat) (l m : List Int) (w : World) (hk : l.length = k) (hj : m.length = j) (hr : RdI w .u8 A l) (hs : RdI w .u8 B m) (hl : k ≤ 9223372036854775807) (hm : j ≤ 9223372036854775807) (hlb : ∀ x ∈ l, 0 ≤ x ∧ x < 256) (hmb : ∀ x ∈ m, 0 ≤ x ∧ x < 256) :
    Calls Try.prog 46 #[.slice A k c, .slice B j d] w fun e w' => e = .returned (.bool (l == m)) ∧ Below w.heap.size w w' := by
  subst hk hj; exact sealSame_any A B c d l m w hr hs hl hm hlb hmb
theorem sTag_len (A B : Option Addr) (c d n k : Nat) (s l : List Int) (w : World) (hn : s.length = n) (hk : l.length = k) (hr : RdI w .u8 A s) (hs : RdI w .u8 B l) (hsl : n ≤ 70368744177664) (hl : k ≤ 1000000) (hsb : ∀ x ∈ s, 0 ≤ x ∧ x < 256) (hlb : ∀ x ∈ l, 0 ≤ x ∧ x < 256) :
    Calls Try.prog 20 #[.slice A n c, .slice B k d] w (ByteRet (tagS s l) w) := by
  subst hn hk; exact sTag_any A B c d s l w hr hs hsl hl hsb hlb
theorem own_some {w : World} {base e n c : Nat} {A : Option Addr} {xs : List Value} (h : w.ownsRow base e 1 (.slice A n c) n xs) (hn : 0 < n) : ∃ g, A = some ⟨g, 0, none⟩ := by
  rcases h.2 with ⟨e1, h0⟩ | ⟨g, cap, cur, e1, _⟩
  · injection e1 with e2 e3; omega
  · injection e1 with e2; exact ⟨g, e2⟩
theorem rd_from0 {w : World} {k : IntKind} {g c : Nat} {l : List Int} (h : RdI w k (some ⟨g, 0, none⟩) l) (m : Nat) (hl : l.length ≤ c) (hm : c ≠ m) : RdI w k (some ⟨g, m, none⟩) (l.drop m) := by
  have h1 := h.cut m hl
  rw [if_neg hm] at h1
  have e : (⟨g, 0, none⟩ : Addr).add m = ⟨g, m, none⟩ := by unfold Addr.add; by_cases h : m = 0 <;> simp [h]
  rw [show (some (⟨g, 0, none⟩ : Addr)).map (·.add m) = some ⟨g, m, none⟩ by rw [← e]; rfl] at h1
  exact h1
set_option maxHeartbeats 8000000 in
set_option maxRecDepth 100000 in
theorem stDecode_any (A : Option Addr) (c : Nat) (ks : List Ky) (B : Option Addr) (cb : Nat) (s : List Int) (w : World) (hr : RdK w A ks) (hl : ks.length ≤ 9223372036854775807) (hs : RdI w .u8 B s) (hsl : s.length ≤ 17592186044416) (hsb : ∀ x ∈ s, 0 ≤ x ∧ x < 256) :
    Calls Try.prog 22 #[.slice A ks.length c, .slice B s.length cb] w (GetRet (decS ks s) w) := by
  have hmf : ∀ (fn : Fn) (first cap : Array Value) (w : World), (Instr.makeFunc fn first cap).run Try.prog w = .ok (.func fn first cap) w := fun _ _ _ _ => rfl
  obtain ⟨w0, e0, hA0, hB0, hsz, hb0⟩ := new2 w (.cells #[.int .i64 0, .int .i64 0, .int .i64 0, .int .i64 0, .int .i64 0, .int .i64 0, .int .i64 0, .int .i64 0, .int .i64 0, .int .i64 0, .int .i64 0, .int .i64 0, .int .i64 0, .int .i64 0, .int .i64 0] 28) (.cells #[.int .i64 0] 31)
  replace hA0 : w0.heap[w.heap.size]? = some (.cells (rdC zeroC) 28 (0, 0)) := hA0
  replace hB0 : Boxed w0 (w.heap.size + 1) 31 (.int .i64 0) := hB0
  have HA0 := Lib.hid hA0
  have hI := fun W hW => ringIs_any A c ks W hW hl
  have hr0 := hr.below hb0 (Nat.le_refl _)
  have hS := fun W h => swipeRead_any B cb s W h hsl hsb
  have hd9 := swipe_9 s
  have hd77 := swipe_77 s
  have hE : decS ks s = if ringB ks = false then (zeroC, 1) else if (swipeRd s).2.2 ≠ 0 then (zeroC, (swipeRd s).2.2) else if (swipeRd s).1.length < 10 then (zeroC, 14)
    else decT ks ((swipeRd s).1.take ((swipeRd s).1.length - 10)) ((swipeRd s).1.drop ((swipeRd s).1.length - 10)) := rfl
  generalize decS ks s = r at *
  generalize swipeRd s = sw at *
  obtain ⟨d, bk, z⟩ := sw
  simp only at hE hd9 hd77
  clear hA0 hsb
  cases hz : ringB ks with
  | false =>
    rw [hz, if_pos rfl] at hE
    rw [hz] at hI
    have HE := Lib.hid hE
    clear hE hS
    go_enter_defers Try.func22, Try.ntmps22
    go_wp2_with (first | (go_at_call 28; (with_reducible refine (hI _ hr0).mono ?_); rintro e w1 ⟨rfl, hb1⟩; have HA1 := Lib.hid ((hb1.block w.heap.size (Array.getElem?_eq_some_iff.1 HA0.out).1).trans HA0.out); have hB1 := bxB hB0 hb1; have hW1 := bT hb0 hb1; have hs1 := hs.below hW1; clear hb1) | (go_at_call 59; (with_reducible refine (must_bad 1 _ (by decide)).mono ?_); rintro e w' ⟨rfl, rfl⟩))
    exact sdec_bad rfl rfl HA1.out rfl hB1 HE.out hW1 rfl
  | true =>
    rw [hz, if_neg (by decide)] at hE
    rw [hz] at hI
    by_cases hz0 : z = 0
    rotate_left
    · rw [if_pos hz0] at hE
      have HE := Lib.hid hE
      have HZ := Lib.hid hz0
      clear hE hz0
      go_enter_defers Try.func22, Try.ntmps22
      go_wp2_with (first | (go_at_call 28; (with_reducible refine (hI _ hr0).mono ?_); rintro e w1 ⟨rfl, hb1⟩; have HA1 := Lib.hid ((hb1.block w.heap.size (Array.getElem?_eq_some_iff.1 HA0.out).1).trans HA0.out); have hB1 := bxB hB0 hb1; have hW1 := bT hb0 hb1; have hs1 := hs.below hW1; clear hb1) | (go_at_call 24; (with_reducible refine (hS _ hs1).mono ?_); rintro e w2 ⟨v, rfl, ho2, hb2⟩; obtain ⟨dA, dc, rfl, q1, q2⟩ := own_slice ho2; have hz12 := hb2.size; have hB2 := bxB hB1 hb2; have ho3 := ho2.kept (grownBy_setCell' _ (w.heap.size + 1) (.int .i64 z)) (.inr (hB2.not_row (by decide) ho2).symm); have cB2 := hB2.cell; have fB2 := hB2.frozen; have HA3 := Lib.hid ((Below.heap_setCell w2 ⟨w.heap.size + 1, 0, none⟩ (.int .i64 z) w.heap.size (by show w.heap.size ≠ w.heap.size + 1; omega)).trans ((hb2.block w.heap.size (Array.getElem?_eq_some_iff.1 HA1.out).1).trans HA1.out)); have HB3 := Lib.hid (hB2.set (.int .i64 z)); have cB3 := HB3.out.cell; have HW3 := Lib.hid (bS (g := w.heap.size + 1) (j := 0) (v := .int .i64 z) (bT hW1 hb2) (by omega)); clear hB2 hb2) | (go_at_call 59; (with_reducible refine (must_bad z _ HZ.out).mono ?_); rintro e w' ⟨rfl, rfl⟩))
      exact sdec_bad rfl rfl HA3.out rfl HB3.out HE.out HW3.out rfl
    rw [if_neg (by simpa using hz0)] at hE
    subst hz0
    by_cases hd10 : d.length < 10
    · rw [if_pos hd10] at hE
      have HE := Lib.hid hE
      have e1 : IntKind.i64.wrap ((d.length : Int) - 10) = (d.length : Int) - 10 := IntWalk.i64_in _ (by omega)
      have d1 : decide ((d.length : Int) - 10 < 0) = true := decide_eq_true (by omega)
      have d1' : decide ((d.length : Int) < 10) = true := decide_eq_true (by omega)
      clear hE
      go_enter_defers Try.func22, Try.ntmps22
      go_wp2_with (first | (go_at_call 28; (with_reducible refine (hI _ hr0).mono ?_); rintro e w1 ⟨rfl, hb1⟩; have HA1 := Lib.hid ((hb1.block w.heap.size (Array.getElem?_eq_some_iff.1 HA0.out).1).trans HA0.out); have hB1 := bxB hB0 hb1; have hW1 := bT hb0 hb1; have hs1 := hs.below hW1; clear hb1) | (go_at_call 24; (with_reducible refine (hS _ hs1).mono ?_); rintro e w2 ⟨v, rfl, ho2, hb2⟩; obtain ⟨dA, dc, rfl, q1, q2⟩ := own_slice ho2; have hz12 := hb2.size; have hB2 := bxB hB1 hb2; have ho3 := ho2.kept (grownBy_setCell' _ (w.heap.size + 1) (.int .i64 0)) (.inr (hB2.not_row (by decide) ho2).symm); have cB2 := hB2.cell; have fB2 := hB2.frozen; have HA3 := Lib.hid ((Below.heap_setCell w2 ⟨w.heap.size + 1, 0, none⟩ (.int .i64 0) w.heap.size (by show w.heap.size ≠ w.heap.size + 1; omega)).trans ((hb2.block w.heap.size (Array.getElem?_eq_some_iff.1 HA1.out).1).trans HA1.out)); have HB3 := Lib.hid (hB2.set (.int .i64 0)); have cB3 := HB3.out.cell; have HW3 := Lib.hid (bS (g := w.heap.size + 1) (j := 0) (v := .int .i64 0) (bT hW1 hb2) (by omega)); clear hB2 hb2) | (go_at_call 59; (with_reducible refine (must_ok _).mono ?_); rintro e w9 ⟨rfl, rfl⟩) | (go_at_call 59; (with_reducible refine (must_bad 14 _ (by decide)).mono ?_); rintro e w' ⟨rfl, rfl⟩))
      exact sdec_bad rfl rfl HA3.out rfl HB3.out HE.out HW3.out rfl
    · rw [if_neg hd10] at hE
      have e1 : IntKind.i64.wrap ((d.length : Int) - 10) = (d.length : Int) - 10 := IntWalk.i64_in _ (by omega)
      obtain ⟨m, hm⟩ : ∃ m, d.length - 10 = m := ⟨_, rfl⟩
      have hdm : d.length = m + 10 := by omega
      rw [hm] at hE
      have e2 : (d.length : Int) - 10 = (m : Int) := by omega
      have e3 : IntKind.i64.wrap (m : Int) = (m : Int) := IntWalk.i64_in _ (by omega)
      have d1 : decide ((m : Int) < 0) = false := decide_eq_false (by omega)
      have hxl : (d.take m).length = m := by rw [List.length_take]; omega
      have htl : (d.drop m).length = 10 := by rw [List.length_drop]; omega
      have hxb : ∀ x ∈ d.take m, 0 ≤ x ∧ x < 256 := fun x hx => by have := hd9 x (List.mem_of_mem_take hx); omega
      have htb : ∀ x ∈ d.drop m, 0 ≤ x ∧ x < 256 := fun x hx => by have := hd9 x (List.mem_of_mem_drop hx); omega
      have h0xl := Lib.hid hxl
      have hG := fun A' c' W h h1 h2 => layGet_len A' c' m (d.take m) W hxl h h1 h2 hxb
      have hxr := fun (W : World) (g : Nat) (h : RdI W .u8 (some ⟨g, 0, none⟩) d) => h.take m
      have htr := fun (W : World) (g c : Nat) (h : RdI W .u8 (some ⟨g, 0, none⟩) d) (h1 : d.length ≤ c) => rd_from0 h m h1 (by omega)
      generalize d.take m = x at *
      generalize d.drop m = t at *
      obtain ⟨a0, a1, a2, a3, a4, a5, a6, a7, a8, a9, a10, a11, a12, a13, a14, hg15⟩ := layG_15 x
      have hGl : (layG x).1.length = 15 := by rw [hg15]; rfl
      have hG11 : (layG x).1.getD 11 0 = a11 := by rw [hg15]; rfl
      unfold decT at hE
      rw [hG11] at hE
      generalize layG x = G at *
      obtain ⟨G, gz⟩ := G
      simp only at hE hG hGl hG11
      have hc11 := fun (W : World) (h : W.heap[w.heap.size]? = some (.cells (rdC G) 28 (0, 0))) => (cell_of_row W _ 11 _ _ _ h).trans ((rdC_at (by omega)).trans (by rw [hG11]))
      have hF := fun W hb => ringFind_any A c ks a11 w W hr hb hl
      have HM := Lib.hid hdm
      clear hdm hm hxl hz hg15 hG11 hr
      by_cases hgz : gz = 0
      rotate_left
      · rw [if_pos hgz] at hE
        have HE := Lib.hid hE
        have HZ := Lib.hid hgz
        clear hE hgz hF
        go_enter_defers Try.func22, Try.ntmps22
        go_wp2_with (first | (go_at_call 28; (with_reducible refine (hI _ hr0).mono ?_); rintro e w1 ⟨rfl, hb1⟩; have HA1 := Lib.hid ((hb1.block w.heap.size (Array.getElem?_eq_some_iff.1 HA0.out).1).trans HA0.out); have hB1 := bxB hB0 hb1; have hW1 := bT hb0 hb1; have hs1 := hs.below hW1; clear hb1) | (go_at_call 24; (with_reducible refine (hS _ hs1).mono ?_); rintro e w2 ⟨v, rfl, ho2, hb2⟩; obtain ⟨dA, dc, rfl, q1, q2⟩ := own_slice ho2; obtain ⟨dg, rfl⟩ := own_some ho2 (by show 0 < d.length; have := HM.out; omega); have hz12 := hb2.size; have hB2 := bxB hB1 hb2; have ho3 := ho2.kept (grownBy_setCell' _ (w.heap.size + 1) (.int .i64 0)) (.inr (hB2.not_row (by decide) ho2).symm); have cB2 := hB2.cell; have fB2 := hB2.frozen; have HA3 := Lib.hid ((Below.heap_setCell w2 ⟨w.heap.size + 1, 0, none⟩ (.int .i64 0) w.heap.size (by show w.heap.size ≠ w.heap.size + 1; omega)).trans ((hb2.block w.heap.size (Array.getElem?_eq_some_iff.1 HA1.out).1).trans HA1.out)); have HB3 := Lib.hid (hB2.set (.int .i64 0)); have cB3 := HB3.out.cell; have HW3 := Lib.hid (bS (g := w.heap.size + 1) (j := 0) (v := .int .i64 0) (bT hW1 hb2) (by omega)); clear hB2 hb2) | (go_at_call 59; (with_reducible refine (must_ok _).mono ?_); rintro e w9 ⟨rfl, rfl⟩) | (go_at_call 60; go_loud ((with_reducible refine (hG _ dc _ (hxr _ _ (RdI.of_own ho3)) ?_ ?_).mono ?_); (focus (have := HM.out; omega)); (focus (unfold maxLen at q2; omega)); rintro e w4 ⟨rfl, hb4⟩; have hs4 : w1.heap.size ≤ w4.heap.size := (by have := hb4.size; simp only [World.size_setCell] at this; omega); have hq1 := hB1.lt; have hA4 := (hb4.block w.heap.size (Array.getElem?_eq_some_iff.1 HA3.out).1).trans HA3.out; have hB4 : Boxed (w4.setRow w.heap.size (rdC G)) (w.heap.size + 1) 31 (.int .i64 0) := (setRow_other w4 w.heap.size (w.heap.size + 1) (rdC G) (by omega)).trans (bxB HB3.out hb4); have cB4 := hB4.cell; have fB4 := hB4.frozen; have HA5 := Lib.hid ((Below.heap_setCell (w4.setRow w.heap.size (rdC G)) ⟨w.heap.size + 1, 0, none⟩ (.int .i64 gz) w.heap.size (by show w.heap.size ≠ w.heap.size + 1; omega)).trans (setRow_heap _ _ _ _ _ _ hA4)); have hc11' := hc11 _ HA5.out; have HB5 := Lib.hid (hB4.set (.int .i64 gz)); have cB5 := HB5.out.cell; have HW5 := Lib.hid (bS (g := w.heap.size + 1) (j := 0) (v := .int .i64 gz) (setRow_below (bT HW3.out hb4) (Nat.le_refl _) : Below w.heap.size w (w4.setRow w.heap.size (rdC G))) (by omega)); have ho5 := own_setCell (g := w.heap.size + 1) (j := 0) (u := .int .i64 gz) (own_setRow (own_below ho3 hb4) (rdC G) (g := w.heap.size) (by omega)) (by omega); clear hB4 hb4 ho3)) | (refine wpList_store_row rfl 28 _ _ rfl w.heap.size (rdC G) rfl rfl 28 _ hA4 ?_ ?_ (rdC_one _) ?_; (focus (rw [rdC_size hGl]; exact infoR)); (focus (first | (rw [rdC_size hGl]; done) | (rw [rdC_size hGl]; rfl)))) | (go_at_call 59; (with_reducible refine (must_bad gz _ HZ.out).mono ?_); rintro e w' ⟨rfl, rfl⟩))
        exact sdec_bad rfl rfl HA5.out (rdC_size hGl) HB5.out HE.out HW5.out rfl
      rw [if_neg (by simpa using hgz)] at hE
      subst hgz
      obtain ⟨⟨fk, fz⟩, hfe⟩ : ∃ f, findE ks a11 = f := ⟨_, rfl⟩
      rw [hfe] at hE
      cases fk with
      | none =>
        have hfz : fz ≠ 0 := fndE_none hfe
        have hF2 := find_no hF hfe
        have HE := Lib.hid hE
        have HZ := Lib.hid hfz
        clear hE hF hfe hfz
        go_enter_defers Try.func22, Try.ntmps22
        go_wp2_with (first | (go_at_call 28; (with_reducible refine (hI _ hr0).mono ?_); rintro e w1 ⟨rfl, hb1⟩; have HA1 := Lib.hid ((hb1.block w.heap.size (Array.getElem?_eq_some_iff.1 HA0.out).1).trans HA0.out); have hB1 := bxB hB0 hb1; have hW1 := bT hb0 hb1; have hs1 := hs.below hW1; clear hb1) | (go_at_call 24; (with_reducible refine (hS _ hs1).mono ?_); rintro e w2 ⟨v, rfl, ho2, hb2⟩; obtain ⟨dA, dc, rfl, q1, q2⟩ := own_slice ho2; obtain ⟨dg, rfl⟩ := own_some ho2 (by show 0 < d.length; have := HM.out; omega); have hz12 := hb2.size; have hB2 := bxB hB1 hb2; have ho3 := ho2.kept (grownBy_setCell' _ (w.heap.size + 1) (.int .i64 0)) (.inr (hB2.not_row (by decide) ho2).symm); have cB2 := hB2.cell; have fB2 := hB2.frozen; have HA3 := Lib.hid ((Below.heap_setCell w2 ⟨w.heap.size + 1, 0, none⟩ (.int .i64 0) w.heap.size (by show w.heap.size ≠ w.heap.size + 1; omega)).trans ((hb2.block w.heap.size (Array.getElem?_eq_some_iff.1 HA1.out).1).trans HA1.out)); have HB3 := Lib.hid (hB2.set (.int .i64 0)); have cB3 := HB3.out.cell; have HW3 := Lib.hid (bS (g := w.heap.size + 1) (j := 0) (v := .int .i64 0) (bT hW1 hb2) (by omega)); clear hB2 hb2) | (go_at_call 60; (with_reducible refine (hG _ dc _ (hxr _ _ (RdI.of_own ho3)) ?_ ?_).mono ?_); (focus (have := HM.out; omega)); (focus (unfold maxLen at q2; omega)); rintro e w4 ⟨rfl, hb4⟩; have hs4 : w1.heap.size ≤ w4.heap.size := (by have := hb4.size; simp only [World.size_setCell] at this; omega); have hq1 := hB1.lt; have hA4 := (hb4.block w.heap.size (Array.getElem?_eq_some_iff.1 HA3.out).1).trans HA3.out; have hB4 : Boxed (w4.setRow w.heap.size (rdC G)) (w.heap.size + 1) 31 (.int .i64 0) := (setRow_other w4 w.heap.size (w.heap.size + 1) (rdC G) (by omega)).trans (bxB HB3.out hb4); have cB4 := hB4.cell; have fB4 := hB4.frozen; have HA5 := Lib.hid ((Below.heap_setCell (w4.setRow w.heap.size (rdC G)) ⟨w.heap.size + 1, 0, none⟩ (.int .i64 0) w.heap.size (by show w.heap.size ≠ w.heap.size + 1; omega)).trans (setRow_heap _ _ _ _ _ _ hA4)); have hc11' := hc11 _ HA5.out; have HB5 := Lib.hid (hB4.set (.int .i64 0)); have cB5 := HB5.out.cell; have HW5 := Lib.hid (bS (g := w.heap.size + 1) (j := 0) (v := .int .i64 0) (setRow_below (bT HW3.out hb4) (Nat.le_refl _) : Below w.heap.size w (w4.setRow w.heap.size (rdC G))) (by omega)); have ho5 := own_setCell (g := w.heap.size + 1) (j := 0) (u := .int .i64 0) (own_setRow (own_below ho3 hb4) (rdC G) (g := w.heap.size) (by omega)) (by omega); clear hB4 hb4 ho3) | (refine wpList_store_row rfl 28 _ _ rfl w.heap.size (rdC G) rfl rfl 28 _ hA4 ?_ ?_ (rdC_one _) ?_; (focus (rw [rdC_size hGl]; exact infoR)); (focus (first | (rw [rdC_size hGl]; done) | (rw [rdC_size hGl]; rfl)))) | (go_at_call 31; go_loud ((with_reducible refine (hF2 _ HW5.out).mono ?_); rintro e w6 ⟨rfl, hb6⟩; have hs6 : w1.heap.size ≤ w6.heap.size := (by have := hb6.size; simp only [World.size_setCell, setRow_size] at this; omega); have hB6 := (bxB HB5.out hb6).alloc (.cells #[.int .i64 0, .slice none 0 0, .int .i64 0, .int .i64 0] 49); have cB6 := hB6.cell; have fB6 := hB6.frozen; have HA7 := Lib.hid ((Below.heap_setCell (w6.alloc (.cells #[.int .i64 0, .slice none 0 0, .int .i64 0, .int .i64 0] 49)) ⟨w.heap.size + 1, 0, none⟩ (.int .i64 fz) w.heap.size (by show w.heap.size ≠ w.heap.size + 1; omega)).trans (((bel1 w6 (.cells #[.int .i64 0, .slice none 0 0, .int .i64 0, .int .i64 0] 49)).block w.heap.size (by omega)).trans ((hb6.block w.heap.size (Array.getElem?_eq_some_iff.1 HA5.out).1).trans HA5.out))); have HB7 := Lib.hid (hB6.set (.int .i64 fz)); have cB7 := HB7.out.cell; have HW7 := Lib.hid (bS (g := w.heap.size + 1) (j := 0) (v := .int .i64 fz) (bA (bT HW5.out hb6) (.cells #[.int .i64 0, .slice none 0 0, .int .i64 0, .int .i64 0] 49)) (by omega)); have ho7 := own_setCell (g := w.heap.size + 1) (j := 0) (u := .int .i64 fz) (own_below (own_below ho5 hb6) (bel1 w6 (.cells #[.int .i64 0, .slice none 0 0, .int .i64 0, .int .i64 0] 49))) (by omega); have hk7 := (Below.heap_setCell (w6.alloc (.cells #[.int .i64 0, .slice none 0 0, .int .i64 0, .int .i64 0] 49)) ⟨w.heap.size + 1, 0, none⟩ (.int .i64 fz) w6.heap.size (by show w6.heap.size ≠ w.heap.size + 1; omega)).trans (heap_alloc_new w6 (.cells #[.int .i64 0, .slice none 0 0, .int .i64 0, .int .i64 0] 49)); clear hB6 hb6)) | (go_at_call 59; (with_reducible refine (must_ok _).mono ?_); rintro e w9 ⟨rfl, rfl⟩) | (go_at_call 59; (with_reducible refine (must_bad fz _ HZ.out).mono ?_); rintro e w' ⟨rfl, rfl⟩))
        exact sdec_bad rfl rfl HA7.out (rdC_size hGl) HB7.out HE.out HW7.out rfl
      | some k =>
        have hF2 := find_yes hF hfe k.sec.length rfl
        have hTg := fun A' B' c' d' W h1 h2 h3 h4 => sTag_len A' B' c' d' _ m k.sec x W rfl h0xl.out h1 h2 h3 (by omega) h4 hxb
        have hTl := tagS_len k.sec x
        have hT9 := tagS_9 k.sec x
        have hTb : ∀ x_1 ∈ tagS k.sec x, 0 ≤ x_1 ∧ x_1 < 256 := fun y hy => by have := hT9 y hy; omega
        have hQ := fun A' B' c' d' W h1 h2 => sealSame_len2 A' B' c' d' 10 10 t (tagS k.sec x) W htl hTl h1 h2 (by decide) (by decide) htb hTb
        obtain ⟨n, hn⟩ : ∃ n, k.sec.length = n := ⟨_, rfl⟩
        rw [hn] at hF2 hTg
        simp only at hE
        generalize tagS k.sec x = T at *
        have HTL := Lib.hid hTl
        have HN := Lib.hid hn
        clear hF hfe hn hTl hT9
        by_cases hq : (t == T) = true
        · rw [if_pos hq] at hE
          have HE := Lib.hid hE
          clear hE
          have e4 : d.length - m = 10 := by have := HM.out; omega
          have m0 : (0 : Int) ≤ (m : Int) := by omega
          have m1 : (m : Int) ≤ (d.length : Int) := by have := HM.out; omega
          go_enter_defers Try.func22, Try.ntmps22
          go_wp2_with (first | (go_at_call 28; (with_reducible refine (hI _ hr0).mono ?_); rintro e w1 ⟨rfl, hb1⟩; have HA1 := Lib.hid ((hb1.block w.heap.size (Array.getElem?_eq_some_iff.1 HA0.out).1).trans HA0.out); have hB1 := bxB hB0 hb1; have hW1 := bT hb0 hb1; have hs1 := hs.below hW1; clear hb1) | (go_at_call 24; (with_reducible refine (hS _ hs1).mono ?_); rintro e w2 ⟨v, rfl, ho2, hb2⟩; obtain ⟨dA, dc, rfl, q1, q2⟩ := own_slice ho2; obtain ⟨dg, rfl⟩ := own_some ho2 (by show 0 < d.length; have := HM.out; omega); have hz12 := hb2.size; have hB2 := bxB hB1 hb2; have ho3 := ho2.kept (grownBy_setCell' _ (w.heap.size + 1) (.int .i64 0)) (.inr (hB2.not_row (by decide) ho2).symm); have cB2 := hB2.cell; have fB2 := hB2.frozen; have HA3 := Lib.hid ((Below.heap_setCell w2 ⟨w.heap.size + 1, 0, none⟩ (.int .i64 0) w.heap.size (by show w.heap.size ≠ w.heap.size + 1; omega)).trans ((hb2.block w.heap.size (Array.getElem?_eq_some_iff.1 HA1.out).1).trans HA1.out)); have HB3 := Lib.hid (hB2.set (.int .i64 0)); have cB3 := HB3.out.cell; have HW3 := Lib.hid (bS (g := w.heap.size + 1) (j := 0) (v := .int .i64 0) (bT hW1 hb2) (by omega)); clear hB2 hb2) | (go_at_call 60; (with_reducible refine (hG _ dc _ (hxr _ _ (RdI.of_own ho3)) ?_ ?_).mono ?_); (focus (have := HM.out; omega)); (focus (unfold maxLen at q2; omega)); rintro e w4 ⟨rfl, hb4⟩; have hs4 : w1.heap.size ≤ w4.heap.size := (by have := hb4.size; simp only [World.size_setCell] at this; omega); have hq1 := hB1.lt; have hA4 := (hb4.block w.heap.size (Array.getElem?_eq_some_iff.1 HA3.out).1).trans HA3.out; have hB4 : Boxed (w4.setRow w.heap.size (rdC G)) (w.heap.size + 1) 31 (.int .i64 0) := (setRow_other w4 w.heap.size (w.heap.size + 1) (rdC G) (by omega)).trans (bxB HB3.out hb4); have cB4 := hB4.cell; have fB4 := hB4.frozen; have HA5 := Lib.hid ((Below.heap_setCell (w4.setRow w.heap.size (rdC G)) ⟨w.heap.size + 1, 0, none⟩ (.int .i64 0) w.heap.size (by show w.heap.size ≠ w.heap.size + 1; omega)).trans (setRow_heap _ _ _ _ _ _ hA4)); have hc11' := hc11 _ HA5.out; have HB5 := Lib.hid (hB4.set (.int .i64 0)); have cB5 := HB5.out.cell; have HW5 := Lib.hid (bS (g := w.heap.size + 1) (j := 0) (v := .int .i64 0) (setRow_below (bT HW3.out hb4) (Nat.le_refl _) : Below w.heap.size w (w4.setRow w.heap.size (rdC G))) (by omega)); have ho5 := own_setCell (g := w.heap.size + 1) (j := 0) (u := .int .i64 0) (own_setRow (own_below ho3 hb4) (rdC G) (g := w.heap.size) (by omega)) (by omega); clear hB4 hb4 ho3) | (refine wpList_store_row rfl 28 _ _ rfl w.heap.size (rdC G) rfl rfl 28 _ hA4 ?_ ?_ (rdC_one _) ?_; (focus (rw [rdC_size hGl]; exact infoR)); (focus (first | (rw [rdC_size hGl]; done) | (rw [rdC_size hGl]; rfl)))) | (go_at_call 31; (with_reducible refine (hF2 _ HW5.out).mono ?_); rintro e w6 ⟨⟨Bk, ck, rfl, kk1, kk2, kk3, kk4, kk5, kk6⟩, hb6⟩; clear kk6; have hs6 : w1.heap.size ≤ w6.heap.size := (by have := hb6.size; simp only [World.size_setCell, setRow_size] at this; omega); have hB6 := (bxB HB5.out hb6).alloc (.cells #[.int .i64 k.id, .slice Bk n ck, .int .i64 k.fr, .int .i64 k.til] 49); have cB6 := hB6.cell; have fB6 := hB6.frozen; have HA7 := Lib.hid ((Below.heap_setCell (w6.alloc (.cells #[.int .i64 k.id, .slice Bk n ck, .int .i64 k.fr, .int .i64 k.til] 49)) ⟨w.heap.size + 1, 0, none⟩ (.int .i64 0) w.heap.size (by show w.heap.size ≠ w.heap.size + 1; omega)).trans (((bel1 w6 (.cells #[.int .i64 k.id, .slice Bk n ck, .int .i64 k.fr, .int .i64 k.til] 49)).block w.heap.size (by omega)).trans ((hb6.block w.heap.size (Array.getElem?_eq_some_iff.1 HA5.out).1).trans HA5.out))); have HB7 := Lib.hid (hB6.set (.int .i64 0)); have cB7 := HB7.out.cell; have HW7 := Lib.hid (bS (g := w.heap.size + 1) (j := 0) (v := .int .i64 0) (bA (bT HW5.out hb6) (.cells #[.int .i64 k.id, .slice Bk n ck, .int .i64 k.fr, .int .i64 k.til] 49)) (by omega)); have ho7 := own_setCell (g := w.heap.size + 1) (j := 0) (u := .int .i64 0) (own_below (own_below ho5 hb6) (bel1 w6 (.cells #[.int .i64 k.id, .slice Bk n ck, .int .i64 k.fr, .int .i64 k.til] 49))) (by omega); have hk7 := (Below.heap_setCell (w6.alloc (.cells #[.int .i64 k.id, .slice Bk n ck, .int .i64 k.fr, .int .i64 k.til] 49)) ⟨w.heap.size + 1, 0, none⟩ (.int .i64 0) w6.heap.size (by show w6.heap.size ≠ w.heap.size + 1; omega)).trans (heap_alloc_new w6 (.cells #[.int .i64 k.id, .slice Bk n ck, .int .i64 k.fr, .int .i64 k.til] 49)); have hc71 := cell_of_row _ _ 1 _ _ _ hk7; simp only [List.getElem?_toArray, List.getElem?_cons_zero, List.getElem?_cons_succ] at hc71; clear hB6 hb6 hk7) | (go_at_call 59; (with_reducible refine (must_ok _).mono ?_); rintro e w9 ⟨rfl, rfl⟩))
          generalize hW7 : (w6.alloc (.cells #[.int .i64 k.id, .slice Bk n ck, .int .i64 k.fr, .int .i64 k.til] 49)).setCell ⟨w.heap.size + 1, 0, none⟩ (.int .i64 0) = W7 at *
          have hxr7 := hxr _ _ (RdI.of_own ho7)
          have htr7 := htr _ _ dc (RdI.of_own ho7) q1
          have hk7 := kk3.below HW7.out
          have m2 : ¬ dc = m := by have := HM.out; omega
          have m3 : (m : Int) ≤ (dc : Int) := by have := HM.out; omega
          have hS0 : W7.cell? ⟨w6.heap.size, 1, none⟩ = some (.slice Bk n ck) ∧ Below W7.heap.size W7 W7 := ⟨hc71, bR _⟩
          clear ho7 hW7 hc71
          go_region_held3 (fun w9 => w9.cell? ⟨w6.heap.size, 1, none⟩ = some (.slice Bk n ck) ∧ Below W7.heap.size W7 w9) (first | (go_keep; done) | exact sd_drew (by assumption) | exact sd_keep (by assumption) hb8 | exact sd_keep (by assumption) hb9)
            (first | (go_at_call 20; (with_reducible refine (hTg _ _ _ _ _ ?_ ?_ ?_ ?_).mono ?_); (focus (exact hk7.below (sd_b (by assumption)))); (focus (exact hxr7.below (sd_b (by assumption)))); (focus (have := rightS_len kk5; have := HN.out; omega)); (focus (exact kk4)); rintro e w8 ⟨v8, rfl, ho8, hb8⟩; rw [HTL.out] at ho8; obtain ⟨A8, c8, rfl, _, _⟩ := own_slice ho8; have hr8 := rd_own_len HTL.out ho8) | (go_at_call 46; (with_reducible refine (hQ _ _ _ _ _ ?_ ?_).mono ?_); (focus (exact htr7.below (sd_b (by assumption)))); (focus (exact hr8)); rintro e w9 ⟨rfl, hb9⟩))
          rename_i hHeld
          have hB := sd_b hHeld
          have hA9 := (hB.block w.heap.size (Array.getElem?_eq_some_iff.1 HA7.out).1).trans HA7.out
          have hB9 := bxB HB7.out hB
          have hW9 := bT HW7.out hB
          clear hHeld hB hb8 hb9 ho8 hr8 hxr7 htr7 hk7 hS0 cB7
          obtain ⟨k0, k1⟩ := And.intro hB9.cell hB9.frozen
          have hB10 : Boxed (w9.setRow w.heap.size (rdC G)) (w.heap.size + 1) 31 (.int .i64 0) := (setRow_other w9 w.heap.size (w.heap.size + 1) (rdC G) (by have := hW1.size; omega)).trans hB9
          obtain ⟨k2, k3⟩ := And.intro hB10.cell hB10.frozen
          go_wp2_with (first | (refine wpList_load_row rfl 28 (.tmp 4) rfl w.heap.size rfl 28 (rdC G) (0, 0) _ hA9 Try.underlying28 rfl ?_ ?_; (focus (rw [rdC_size hGl]; exact infoR))) | (refine wpList_store_row rfl 28 _ _ rfl w.heap.size (rdC G) rfl rfl 28 _ hA9 ?_ ?_ (rdC_one _) ?_; (focus (rw [rdC_size hGl]; exact infoR)); (focus (first | (rw [rdC_size hGl]; done) | (rw [rdC_size hGl]; rfl)))))
          rw [HE.out]
          exact sdec_good rfl rfl ((Below.heap_setCell _ _ _ _ (by show w.heap.size ≠ w.heap.size + 1; omega)).trans (setRow_heap _ _ _ _ _ _ hA9)) hGl (hB10.set _) (bS (setRow_below hW9 (Nat.le_refl _)) (by omega)) rfl
        · rw [if_neg hq] at hE
          have hq' : (t == T) = false := by simpa using hq
          have HE := Lib.hid hE
          clear hE hq
          have e4 : d.length - m = 10 := by have := HM.out; omega
          have m0 : (0 : Int) ≤ (m : Int) := by omega
          have m1 : (m : Int) ≤ (d.length : Int) := by have := HM.out; omega
          go_enter_defers Try.func22, Try.ntmps22
          go_wp2_with (first | (go_at_call 28; (with_reducible refine (hI _ hr0).mono ?_); rintro e w1 ⟨rfl, hb1⟩; have HA1 := Lib.hid ((hb1.block w.heap.size (Array.getElem?_eq_some_iff.1 HA0.out).1).trans HA0.out); have hB1 := bxB hB0 hb1; have hW1 := bT hb0 hb1; have hs1 := hs.below hW1; clear hb1) | (go_at_call 24; (with_reducible refine (hS _ hs1).mono ?_); rintro e w2 ⟨v, rfl, ho2, hb2⟩; obtain ⟨dA, dc, rfl, q1, q2⟩ := own_slice ho2; obtain ⟨dg, rfl⟩ := own_some ho2 (by show 0 < d.length; have := HM.out; omega); have hz12 := hb2.size; have hB2 := bxB hB1 hb2; have ho3 := ho2.kept (grownBy_setCell' _ (w.heap.size + 1) (.int .i64 0)) (.inr (hB2.not_row (by decide) ho2).symm); have cB2 := hB2.cell; have fB2 := hB2.frozen; have HA3 := Lib.hid ((Below.heap_setCell w2 ⟨w.heap.size + 1, 0, none⟩ (.int .i64 0) w.heap.size (by show w.heap.size ≠ w.heap.size + 1; omega)).trans ((hb2.block w.heap.size (Array.getElem?_eq_some_iff.1 HA1.out).1).trans HA1.out)); have HB3 := Lib.hid (hB2.set (.int .i64 0)); have cB3 := HB3.out.cell; have HW3 := Lib.hid (bS (g := w.heap.size + 1) (j := 0) (v := .int .i64 0) (bT hW1 hb2) (by omega)); clear hB2 hb2) | (go_at_call 60; (with_reducible refine (hG _ dc _ (hxr _ _ (RdI.of_own ho3)) ?_ ?_).mono ?_); (focus (have := HM.out; omega)); (focus (unfold maxLen at q2; omega)); rintro e w4 ⟨rfl, hb4⟩; have hs4 : w1.heap.size ≤ w4.heap.size := (by have := hb4.size; simp only [World.size_setCell] at this; omega); have hq1 := hB1.lt; have hA4 := (hb4.block w.heap.size (Array.getElem?_eq_some_iff.1 HA3.out).1).trans HA3.out; have hB4 : Boxed (w4.setRow w.heap.size (rdC G)) (w.heap.size + 1) 31 (.int .i64 0) := (setRow_other w4 w.heap.size (w.heap.size + 1) (rdC G) (by omega)).trans (bxB HB3.out hb4); have cB4 := hB4.cell; have fB4 := hB4.frozen; have HA5 := Lib.hid ((Below.heap_setCell (w4.setRow w.heap.size (rdC G)) ⟨w.heap.size + 1, 0, none⟩ (.int .i64 0) w.heap.size (by show w.heap.size ≠ w.heap.size + 1; omega)).trans (setRow_heap _ _ _ _ _ _ hA4)); have hc11' := hc11 _ HA5.out; have HB5 := Lib.hid (hB4.set (.int .i64 0)); have cB5 := HB5.out.cell; have HW5 := Lib.hid (bS (g := w.heap.size + 1) (j := 0) (v := .int .i64 0) (setRow_below (bT HW3.out hb4) (Nat.le_refl _) : Below w.heap.size w (w4.setRow w.heap.size (rdC G))) (by omega)); have ho5 := own_setCell (g := w.heap.size + 1) (j := 0) (u := .int .i64 0) (own_setRow (own_below ho3 hb4) (rdC G) (g := w.heap.size) (by omega)) (by omega); clear hB4 hb4 ho3) | (refine wpList_store_row rfl 28 _ _ rfl w.heap.size (rdC G) rfl rfl 28 _ hA4 ?_ ?_ (rdC_one _) ?_; (focus (rw [rdC_size hGl]; exact infoR)); (focus (first | (rw [rdC_size hGl]; done) | (rw [rdC_size hGl]; rfl)))) | (go_at_call 31; (with_reducible refine (hF2 _ HW5.out).mono ?_); rintro e w6 ⟨⟨Bk, ck, rfl, kk1, kk2, kk3, kk4, kk5, kk6⟩, hb6⟩; clear kk6; have hs6 : w1.heap.size ≤ w6.heap.size := (by have := hb6.size; simp only [World.size_setCell, setRow_size] at this; omega); have hB6 := (bxB HB5.out hb6).alloc (.cells #[.int .i64 k.id, .slice Bk n ck, .int .i64 k.fr, .int .i64 k.til] 49); have cB6 := hB6.cell; have fB6 := hB6.frozen; have HA7 := Lib.hid ((Below.heap_setCell (w6.alloc (.cells #[.int .i64 k.id, .slice Bk n ck, .int .i64 k.fr, .int .i64 k.til] 49)) ⟨w.heap.size + 1, 0, none⟩ (.int .i64 0) w.heap.size (by show w.heap.size ≠ w.heap.size + 1; omega)).trans (((bel1 w6 (.cells #[.int .i64 k.id, .slice Bk n ck, .int .i64 k.fr, .int .i64 k.til] 49)).block w.heap.size (by omega)).trans ((hb6.block w.heap.size (Array.getElem?_eq_some_iff.1 HA5.out).1).trans HA5.out))); have HB7 := Lib.hid (hB6.set (.int .i64 0)); have cB7 := HB7.out.cell; have HW7 := Lib.hid (bS (g := w.heap.size + 1) (j := 0) (v := .int .i64 0) (bA (bT HW5.out hb6) (.cells #[.int .i64 k.id, .slice Bk n ck, .int .i64 k.fr, .int .i64 k.til] 49)) (by omega)); have ho7 := own_setCell (g := w.heap.size + 1) (j := 0) (u := .int .i64 0) (own_below (own_below ho5 hb6) (bel1 w6 (.cells #[.int .i64 k.id, .slice Bk n ck, .int .i64 k.fr, .int .i64 k.til] 49))) (by omega); have hk7 := (Below.heap_setCell (w6.alloc (.cells #[.int .i64 k.id, .slice Bk n ck, .int .i64 k.fr, .int .i64 k.til] 49)) ⟨w.heap.size + 1, 0, none⟩ (.int .i64 0) w6.heap.size (by show w6.heap.size ≠ w.heap.size + 1; omega)).trans (heap_alloc_new w6 (.cells #[.int .i64 k.id, .slice Bk n ck, .int .i64 k.fr, .int .i64 k.til] 49)); have hc71 := cell_of_row _ _ 1 _ _ _ hk7; simp only [List.getElem?_toArray, List.getElem?_cons_zero, List.getElem?_cons_succ] at hc71; clear hB6 hb6 hk7) | (go_at_call 59; (with_reducible refine (must_ok _).mono ?_); rintro e w9 ⟨rfl, rfl⟩))
          generalize hW7 : (w6.alloc (.cells #[.int .i64 k.id, .slice Bk n ck, .int .i64 k.fr, .int .i64 k.til] 49)).setCell ⟨w.heap.size + 1, 0, none⟩ (.int .i64 0) = W7 at *
          have hxr7 := hxr _ _ (RdI.of_own ho7)
          have htr7 := htr _ _ dc (RdI.of_own ho7) q1
          have hk7 := kk3.below HW7.out
          have m2 : ¬ dc = m := by have := HM.out; omega
          have m3 : (m : Int) ≤ (dc : Int) := by have := HM.out; omega
          have hS0 : W7.cell? ⟨w6.heap.size, 1, none⟩ = some (.slice Bk n ck) ∧ Below W7.heap.size W7 W7 := ⟨hc71, bR _⟩
          clear ho7 hW7 hc71
          go_region_held3 (fun w9 => w9.cell? ⟨w6.heap.size, 1, none⟩ = some (.slice Bk n ck) ∧ Below W7.heap.size W7 w9) (first | (go_keep; done) | exact sd_drew (by assumption) | exact sd_keep (by assumption) hb8 | exact sd_keep (by assumption) hb9)
            (first | (go_at_call 20; (with_reducible refine (hTg _ _ _ _ _ ?_ ?_ ?_ ?_).mono ?_); (focus (exact hk7.below (sd_b (by assumption)))); (focus (exact hxr7.below (sd_b (by assumption)))); (focus (have := rightS_len kk5; have := HN.out; omega)); (focus (exact kk4)); rintro e w8 ⟨v8, rfl, ho8, hb8⟩; rw [HTL.out] at ho8; obtain ⟨A8, c8, rfl, _, _⟩ := own_slice ho8; have hr8 := rd_own_len HTL.out ho8) | (go_at_call 46; (with_reducible refine (hQ _ _ _ _ _ ?_ ?_).mono ?_); (focus (exact htr7.below (sd_b (by assumption)))); (focus (exact hr8)); rintro e w9 ⟨rfl, hb9⟩))
          rename_i hHeld
          have hB := sd_b hHeld
          have hA9 := (hB.block w.heap.size (Array.getElem?_eq_some_iff.1 HA7.out).1).trans HA7.out
          have hB9 := bxB HB7.out hB
          have hW9 := bT HW7.out hB
          clear hHeld hB hb8 hb9 ho8 hr8 hxr7 htr7 hk7 hS0 cB7
          go_wp2_with (go_at_call 59; (with_reducible refine (must_bad 11 _ (by decide)).mono ?_); rintro e w' ⟨rfl, rfl⟩)
          exact sdec_bad rfl rfl hA9 (rdC_size hGl) hB9 HE.out hW9 rfl
end Go.Proofs.Ytachkhjbckapoaa

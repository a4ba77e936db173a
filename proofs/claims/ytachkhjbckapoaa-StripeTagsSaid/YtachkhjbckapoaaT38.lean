/- Layer 15: what stripe.Encode computes. No condition. -/
import Derived.Test.YtachkhjbckapoaaT28
import Derived.Test.YtachkhjbckapoaaT13
import Derived.Test.YtachkhjbckapoaaT32
import Derived.Test.YtachkhjbckapoaaT36
import Derived.Test.YtachkhjbckapoaaT37
namespace Go.Proofs.Ytachkhjbckapoaa
open Go.RowKit
set_option linter.unusedVariables false
set_option maxRecDepth 100000
set_option linter.unusedSimpArgs false

/-- What stripe.Encode computes. -/
def encS (ks : List Ky) (l : List Int) : List Int × Int :=
  if ringB ks = false then ([], 1) else if (layR (tkL l) l).2 ≠ 0 then ([], (layR (tkL l) l).2) else match findE ks (l.getD 11 0) with
    | (none, e) => ([], e)
    | (some k, _) => trackPut ((layR (tkL l) l).1 ++ tagS k.sec (layR (tkL l) l).1)
theorem bxB {W W' : World} {B : Nat} {t : TypeId} {v : Value} (h : Boxed W B t v) (hb : Below W.heap.size W W') : Boxed W' B t v := (hb.block _ h.lt).trans h
theorem rightS_len {k : Ky} (h : rightB k = true) : 1 ≤ k.sec.length ∧ k.sec.length ≤ 64 := by
  unfold rightB at h
  simp only [Bool.and_eq_true, decide_eq_true_eq] at h
  exact h.1.2
theorem panic_res (n : Int) (w : World) : (Instr.panic (.iface 31 (.int .i64 n))).run Try.prog w = .halt (.panic (.iface 31 (.int .i64 n))) w := rfl
theorem must_ok (w : World) : Calls Try.prog 59 #[.int .i64 0] w fun e w' => e = .returned (.tuple #[]) ∧ w = w' := by
  go_enter Try.func59, Try.ntmps59
  go_wp2
  go_end0
  exact ⟨rfl, rfl⟩
theorem must_bad (z : Int) (w : World) (hz : z ≠ 0) : Calls Try.prog 59 #[.int .i64 z] w fun e w' => e = .panicked [{ v := .iface 31 (.int .i64 z), recovered := false }] ∧ w = w' := by
  have hd : (z != 0) = true := by simpa using hz
  have hP := panic_res z
  clear hz
  go_enter Try.func59, Try.ntmps59
  go_wp2
  exact ⟨rfl, rfl, rfl⟩
theorem caught_any (n : Int) (w : World) : Calls Try.prog 58 #[.iface 31 (.int .i64 n)] w fun e w' => e = .returned (.int .i64 n) ∧ w = w' := by
  have hta : ∀ (w : World), (Instr.typeAssert (.iface 31 (.int .i64 n)) 20 31 true).run Try.prog w = .ok (.tuple #[.int .i64 n, .bool true]) w := fun _ => rfl
  go_enter Try.func58, Try.ntmps58
  go_wp2
  go_ret
  exact ⟨rfl, rfl⟩
set_option maxHeartbeats 1000000 in
theorem senc_panicking (p q : Nat) (n : Int) (older : List PanicEntry) (w : World) (u v : Value) (hp : Boxed w p 30 u) (hq : Boxed w q 31 v) (hne : p ≠ q) :
    CallsD Try.prog 61 #[.pointer (some ⟨p, 0, none⟩), .pointer (some ⟨q, 0, none⟩)] (.panicking ({ v := .iface 31 (.int .i64 n), recovered := false } :: older)) w fun e u' w' =>
      e = .returned (.tuple #[]) ∧ u' = .panicking ({ v := .iface 31 (.int .i64 n), recovered := true } :: older) ∧ w' = (w.setCell ⟨p, 0, none⟩ (.slice none 0 0)).setCell ⟨q, 0, none⟩ (.int .i64 n) := by
  refine callsD_of_wpS Try.func61 rfl fun c₀ cs hu => ?_
  have hc := hp.cell
  have hf := hp.frozen
  have hq1 : Boxed (w.setCell ⟨p, 0, none⟩ (.slice none 0 0)) q 31 v := hq.other hne.symm _
  have hc1 := hq1.cell
  have hf1 := hq1.frozen
  have hnq : ∀ (w : World), (binOp BinOp.neq 20 (.iface 31 (.int .i64 n)) .nilIface).run Try.prog w = .ok (.bool true) w := fun _ => rfl
  clear hp hq hq1
  simp only [Try.ntmps61, List.size_toArray, List.length_cons, List.length_nil, Nat.reduceAdd, Nat.reduceSub, Array.replicate_succ, Array.replicate_zero, List.push_toArray, List.append_toArray, List.nil_append, List.cons_append]
  apply wpS_seq
  apply wpS_region
  simp [wpOpsS, go_sem, recoverD, hu, Try.ntmps61, Exit.thenS]
  refine wpS_of_wp ?_
  go_wp2_with (go_at_call 58; (with_reducible refine (caught_any _ _).mono ?_); rintro e w' ⟨rfl, rfl⟩)
  exact ⟨rfl, _, rfl, _, results_none rfl _ _ _, rfl, rfl, rfl⟩
set_option maxHeartbeats 1000000 in
theorem senc_idle (p q : Addr) (w : World) :
    CallsD Try.prog 61 #[.pointer (some p), .pointer (some q)] .returning w fun e u' w' => e = .returned (.tuple #[]) ∧ u' = .returning ∧ w' = w := by
  refine callsD_of_wpS Try.func61 rfl fun c₀ cs hu => ?_
  have hnq : ∀ (w : World), (binOp BinOp.neq 20 .nilIface .nilIface).run Try.prog w = .ok (.bool false) w := fun _ => rfl
  simp only [Try.ntmps61, List.size_toArray, List.length_cons, List.length_nil, Nat.reduceAdd, Nat.reduceSub, Array.replicate_succ, Array.replicate_zero, List.push_toArray, List.append_toArray, List.nil_append, List.cons_append]
  apply wpS_seq
  apply wpS_region
  simp [wpOpsS, go_sem, recoverD, hu, Try.ntmps61, Exit.thenS]
  refine wpS_of_wp ?_
  go_wp2
  exact ⟨rfl, .returning, by cases c₀; simp_all, _, results_none rfl _ _ _, rfl, rfl, rfl⟩
theorem senc_out {r : List Int × Int} {w w' : World} {tmps : Array Value} {v : Value} (hp : tmps.getD 4 undef = .pointer (some ⟨w.heap.size + 1, 0, none⟩)) (hq : tmps.getD 5 undef = .pointer (some ⟨w.heap.size + 1 + 1, 0, none⟩))
    (h1 : Boxed w' (w.heap.size + 1) 30 v) (h2 : Boxed w' (w.heap.size + 1 + 1) 31 (.int .i64 r.2)) (hr : w'.ownsRow w.heap.size 5 1 v r.1.length (r.1.map (.int .u8))) (hb : Below w.heap.size w w') :
    Leaves Try.prog Try.f23 tmps (ByteRetE r w) [] .returning w' :=
  ⟨_, results_cell2 rfl Try.underlying30 Try.underlying31 rfl rfl hp hq h1.cell h2.cell, v, rfl, hr, hb⟩
theorem senc_bad {r : List Int × Int} {w W : World} {tmps : Array Value} {z : Int} {u v : Value} {ds : List Deferred} (hp : tmps.getD 4 undef = .pointer (some ⟨w.heap.size + 1, 0, none⟩)) (hq : tmps.getD 5 undef = .pointer (some ⟨w.heap.size + 1 + 1, 0, none⟩))
    (h1 : Boxed W (w.heap.size + 1) 30 u) (h2 : Boxed W (w.heap.size + 1 + 1) 31 v) (hE : r = ([], z)) (hb : Below w.heap.size w W)
    (hd : ds = [{ target := .fn (.func 61) #[.pointer (some ⟨w.heap.size + 1, 0, none⟩), .pointer (some ⟨w.heap.size + 1 + 1, 0, none⟩)], args := #[] }]) :
    Leaves Try.prog Try.f23 tmps (ByteRetE r w) ds (.panicking [{ v := .iface 31 (.int .i64 z), recovered := false }]) W := by
  subst hE hd
  refine leaves_cons (f := 61) (args := #[.pointer (some ⟨w.heap.size + 1, 0, none⟩), .pointer (some ⟨w.heap.size + 1 + 1, 0, none⟩)]) (by simp) (by simp [go_sem]) ?_
  refine (senc_panicking (w.heap.size + 1) (w.heap.size + 1 + 1) z [] _ _ _ h1 h2 (by omega)).mono ?_
  rintro e u' w' ⟨rfl, rfl, rfl⟩
  exact senc_out hp hq ((h1.set _).other (by omega) _) ((h2.other (by omega) _).set _) (World.ownsRow_nil _ _ _ _) (bS (bS hb (by omega)) (by omega))
theorem senc_good {r : List Int × Int} {w W : World} {tmps : Array Value} {v : Value} {ds : List Deferred} (hp : tmps.getD 4 undef = .pointer (some ⟨w.heap.size + 1, 0, none⟩)) (hq : tmps.getD 5 undef = .pointer (some ⟨w.heap.size + 1 + 1, 0, none⟩))
    (h1 : Boxed W (w.heap.size + 1) 30 v) (h2 : Boxed W (w.heap.size + 1 + 1) 31 (.int .i64 r.2)) (hr : W.ownsRow w.heap.size 5 1 v r.1.length (r.1.map (.int .u8))) (hb : Below w.heap.size w W)
    (hd : ds = [{ target := .fn (.func 61) #[.pointer (some ⟨w.heap.size + 1, 0, none⟩), .pointer (some ⟨w.heap.size + 1 + 1, 0, none⟩)], args := #[] }]) :
    Leaves Try.prog Try.f23 tmps (ByteRetE r w) ds .returning W := by
  subst hd
  refine leaves_cons (f := 61) (args := #[.pointer (some ⟨w.heap.size + 1, 0, none⟩), .pointer (some ⟨w.heap.size + 1 + 1, 0, none⟩)]) (by simp) (by simp [go_sem]) ?_
  refine (senc_idle _ _ _).mono ?_
  rintro e u' w' ⟨rfl, rfl, rfl⟩
  exact senc_out hp hq h1 h2 hr hb
theorem new3 (w : World) (A B C : Obj) : ∃ w0, (((w.alloc A).alloc B).alloc C) = w0 ∧ w0.heap[w.heap.size]? = some A ∧ w0.heap[w.heap.size + 1]? = some B ∧ w0.heap[w.heap.size + 1 + 1]? = some C ∧ w0.heap.size = w.heap.size + 1 + 1 + 1 ∧ Below w.heap.size w w0 := by
  obtain ⟨w1, h1, a1, a2, a3, a4⟩ := new2 w A B
  obtain ⟨w2, h2, b1, b2, b3⟩ := new_block w1 C
  refine ⟨w2, by rw [h1, h2], (b2.block _ (by omega)).trans a1, (b2.block _ (by omega)).trans a2, by rw [a3] at b1; exact b1, by omega, bT a4 b2⟩
theorem trackPut_fail {d : List Int} (h : (trackPut d).2 ≠ 0) : (trackPut d).1 = [] := by
  unfold trackPut at h ⊢
  split
  · rfl
  · split
    · rfl
    · rename_i h1 h2
      rw [if_neg h1, if_neg h2] at h
      exact absurd rfl h
theorem joinGo_len : ∀ (l m acc : List Int), (joinGo l m acc).1.length ≤ acc.length + 18 * l.length
  | [], m, acc => by simp [joinGo]
  | v :: vs, [], acc => by simp [joinGo]
  | v :: vs, w :: ws, acc => by
    rw [joinGo_cons]
    split
    · simp
    · have h := joinGo_len vs ws (acc ++ putL v w)
      have h2 := putL_len v w
      simp only [List.length_append, List.length_cons] at h ⊢
      omega
theorem joinR_len360 (l m : List Int) : (joinR l m).1.length ≤ 360 := by
  unfold joinR
  split
  · simp
  · rename_i h
    have := joinGo_len l m []
    simp only [List.length_nil] at this
    omega
theorem layR_len (T : Bool) (c : List Int) : (layR T c).1.length ≤ 1000 := by
  unfold layR
  split
  · simp
  · split
    · simp
    · have := joinR_len360 (layV (c.getD 1 0) c) (wsL (c.getD 1 0)); omega
theorem fndE_none {l : List Ky} {id z : Int} (h : findE l id = (none, z)) : z ≠ 0 := by
  unfold findE at h
  split at h
  · have := congrArg Prod.snd h; simp at this; omega
  · split at h
    · split at h
      · exact absurd (congrArg Prod.fst h) (by simp)
      · have := congrArg Prod.snd h; simp at this; omega
    · have := congrArg Prod.snd h; simp at this; omega
theorem fndE_some {l : List Ky} {id z : Int} {k : Ky} (h : findE l id = (some k, z)) : z = 0 := by
  unfold findE at h
  split at h
  · exact absurd (congrArg Prod.fst h) (by simp)
  · split at h
    · split at h
      · have := congrArg Prod.snd h; simp at this; omega
      · exact absurd (congrArg Prod.fst h) (by simp)
    · exact absurd (congrArg Prod.fst h) (by simp)
theorem find_no {F : FuncId} {args : Array Value} {ks : List Ky} {id z : Int} {w : World} (hF : ∀ W, Below w.heap.size w W → Calls Try.prog F args W (FindRet ks id w W)) (h : findE ks id = (none, z)) (W : World) (hW : Below w.heap.size w W) :
    Calls Try.prog F args W fun e w' => e = .returned (.tuple #[.agg #[.int .i64 0, .slice none 0 0, .int .i64 0, .int .i64 0], .int .i64 z]) ∧ Below W.heap.size W w' := by
  refine (hF W hW).mono ?_
  rintro e w' ⟨⟨B, c, rfl, _⟩, hb⟩
  rw [h]
  exact ⟨rfl, hb⟩
theorem find_yes {F : FuncId} {args : Array Value} {ks : List Ky} {id : Int} {k : Ky} {z : Int} {w : World} (hF : ∀ W, Below w.heap.size w W → Calls Try.prog F args W (FindRet ks id w W)) (h : findE ks id = (some k, z)) (n : Nat) (hn : k.sec.length = n) (W : World) (hW : Below w.heap.size w W) :
    Calls Try.prog F args W fun e w' => (∃ B c, e = .returned (.tuple #[.agg #[.int .i64 k.id, .slice B n c, .int .i64 k.fr, .int .i64 k.til], .int .i64 0]) ∧ n ≤ c ∧ c ≤ 9223372036854775807 ∧ RdI w .u8 B k.sec ∧ (∀ x ∈ k.sec, 0 ≤ x ∧ x < 256) ∧ rightB k = true ∧ k.id = id) ∧ Below W.heap.size W w' := by
  have hz := fndE_some h
  subst hn hz
  refine (hF W hW).mono ?_
  rintro e w' ⟨⟨B, c, rfl, hk⟩, hb⟩
  rw [h] at hk ⊢
  obtain ⟨k1, k2, k3, k4, k5, k6⟩ := hk k rfl
  exact ⟨⟨B, c, rfl, k1, k2, k3, k4, k5, k6⟩, hb⟩
set_option maxHeartbeats 8000000 in
set_option maxRecDepth 100000 in
theorem stEncode_any (A : Option Addr) (c : Nat) (ks : List Ky) (a0 a1 a2 a3 a4 a5 a6 a7 a8 a9 a10 a11 a12 a13 a14 : Int) (w : World) (hr : RdK w A ks) (hl : ks.length ≤ 9223372036854775807) (hv : ∀ x ∈ [a0, a1, a2, a3, a4, a5, a6, a7, a8, a9, a10, a11, a12, a13, a14], x ≤ 9223372036854775807) :
    Calls Try.prog 23 #[.slice A ks.length c, .agg #[.int .i64 a0, .int .i64 a1, .int .i64 a2, .int .i64 a3, .int .i64 a4, .int .i64 a5, .int .i64 a6, .int .i64 a7, .int .i64 a8, .int .i64 a9, .int .i64 a10, .int .i64 a11, .int .i64 a12, .int .i64 a13, .int .i64 a14]] w (ByteRetE (encS ks [a0, a1, a2, a3, a4, a5, a6, a7, a8, a9, a10, a11, a12, a13, a14]) w) := by
  have hmf : ∀ (fn : Fn) (first cap : Array Value) (w : World), (Instr.makeFunc fn first cap).run Try.prog w = .ok (.func fn first cap) w := fun _ _ _ _ => rfl
  obtain ⟨i0, hi, hz0, hz1, hz2⟩ := info_parts infoB8
  obtain ⟨w0, e0, hR0, hA0, hB0, hsz, hb0⟩ := new3 w (.cells #[.int .i64 a0, .int .i64 a1, .int .i64 a2, .int .i64 a3, .int .i64 a4, .int .i64 a5, .int .i64 a6, .int .i64 a7, .int .i64 a8, .int .i64 a9, .int .i64 a10, .int .i64 a11, .int .i64 a12, .int .i64 a13, .int .i64 a14] 28) (.cells #[.slice none 0 0] 30) (.cells #[.int .i64 0] 31)
  replace hA0 : Boxed w0 (w.heap.size + 1) 30 (.slice none 0 0) := hA0
  replace hB0 : Boxed w0 (w.heap.size + 1 + 1) 31 (.int .i64 0) := hB0
  have hI := fun W hW => ringIs_any A c ks W hW hl
  have hr0 := hr.below hb0 (Nat.le_refl _)
  obtain ⟨L, hL⟩ : ∃ L, [a0, a1, a2, a3, a4, a5, a6, a7, a8, a9, a10, a11, a12, a13, a14] = L := ⟨_, rfl⟩
  have hP := fun W => layPut_any a0 a1 a2 a3 a4 a5 a6 a7 a8 a9 a10 a11 a12 a13 a14 W hv
  have hby := fun e l => layR_byte (l := l) (e := e) (T := tkB a0 a1 a2 a3 a4 a5 a6 a7 a8 a9 a10) (a0 := a0) (a1 := a1) (a2 := a2) (a3 := a3) (a4 := a4) (a5 := a5) (a6 := a6) (a7 := a7) (a8 := a8) (a9 := a9) (a10 := a10) (a11 := a11) (a12 := a12) (a13 := a13) (a14 := a14)
  rw [hL] at hP hby ⊢
  rw [show tkB a0 a1 a2 a3 a4 a5 a6 a7 a8 a9 a10 = tkL L by rw [← hL]; rfl] at hP hby
  have hll := layR_len (tkL L) L
  have h11 : L.getD 11 0 = a11 := by rw [← hL]; rfl
  have hF := fun W hb => ringFind_any A c ks a11 w W hr hb hl
  have hE : encS ks L = if ringB ks = false then ([], 1) else if (layR (tkL L) L).2 ≠ 0 then ([], (layR (tkL L) L).2) else match findE ks a11 with
    | (none, e) => ([], e)
    | (some k, _) => trackPut ((layR (tkL L) L).1 ++ tagS k.sec (layR (tkL L) L).1) := by unfold encS; rw [h11]
  clear hL h11 hv
  have hR11 : ∀ W : World, W.heap[w.heap.size]? = some (.cells #[.int .i64 a0, .int .i64 a1, .int .i64 a2, .int .i64 a3, .int .i64 a4, .int .i64 a5, .int .i64 a6, .int .i64 a7, .int .i64 a8, .int .i64 a9, .int .i64 a10, .int .i64 a11, .int .i64 a12, .int .i64 a13, .int .i64 a14] 28 (0, 0)) → W.cell? ⟨w.heap.size, 11, none⟩ = some (.int .i64 a11) := fun W h => cell_of_row W _ 11 _ _ _ h
  generalize encS ks L = r at *
  generalize layR (tkL L) L = p at *
  obtain ⟨pl, pz⟩ := p
  replace hby := hby pz pl rfl
  simp only at hE hll
  have hR0' : Hid (w0.heap[w.heap.size]? = _) := Lib.hid hR0
  clear hR0
  cases hz : ringB ks with
  | false =>
    rw [hz, if_pos rfl] at hE
    rw [hz] at hI
    have HE := Lib.hid hE
    clear hE hP hF
    go_enter_defers Try.func23, Try.ntmps23
    go_wp2_with (first | (go_at_call 28; (with_reducible refine (hI _ hr0).mono ?_); rintro e w1 ⟨rfl, hb1⟩; have hA1 := bxB hA0 hb1; have hB1 := bxB hB0 hb1; have hb2 := bT hb0 hb1) | (go_at_call 59; (with_reducible refine (must_bad 1 _ (by decide)).mono ?_); rintro e w' ⟨rfl, rfl⟩))
    exact senc_bad rfl rfl hA1 hB1 HE.out hb2 rfl
  | true =>
    rw [hz, if_neg (by decide)] at hE
    rw [hz] at hI
    by_cases hpz : pz = 0
    rotate_left
    · rw [if_pos hpz] at hE
      have HE := Lib.hid hE
      have HZ := Lib.hid hpz
      clear hE hF hpz
      go_enter_defers Try.func23, Try.ntmps23
      go_wp2_with (first | (go_at_call 28; (with_reducible refine (hI _ hr0).mono ?_); rintro e w1 ⟨rfl, hb1⟩; have hA1 := bxB hA0 hb1; have hB1 := bxB hB0 hb1; have hW1 := bT hb0 hb1; have hR1 := (hb1.block w.heap.size (Array.getElem?_eq_some_iff.1 hR0'.out).1).trans hR0'.out; clear hb1) | (refine wpList_load_row rfl 28 (.tmp 3) rfl w.heap.size rfl 28 #[.int .i64 a0, .int .i64 a1, .int .i64 a2, .int .i64 a3, .int .i64 a4, .int .i64 a5, .int .i64 a6, .int .i64 a7, .int .i64 a8, .int .i64 a9, .int .i64 a10, .int .i64 a11, .int .i64 a12, .int .i64 a13, .int .i64 a14] (0, 0) _ hR1 Try.underlying28 rfl ?_ ?_; (focus (exact infoR))) | (go_at_call 62; (with_reducible refine (hP _).mono ?_); rintro e w2 ⟨v, rfl, ho2, hb2⟩; obtain ⟨vA, vc, rfl, _, _⟩ := own_slice ho2; have hs2 := hb2.size; have hB2 := bxB hB1 hb2; have ho3 := ho2.kept (grownBy_setCell' _ (w.heap.size + 1 + 1) (.int .i64 pz)) (.inr (hB2.not_row (by decide) ho2).symm); have cB2 := hB2.cell; have fB2 := hB2.frozen; have HA3 := Lib.hid ((bxB hA1 hb2).other (B' := w.heap.size + 1 + 1) (by omega) (.int .i64 pz)); have HB3 := Lib.hid (hB2.set (.int .i64 pz)); have cB3 := HB3.out.cell; have HW3 := Lib.hid (bS (g := w.heap.size + 1 + 1) (j := 0) (v := .int .i64 pz) (bT hW1 hb2) (by omega)); have HR3 := Lib.hid ((Below.heap_setCell w2 ⟨w.heap.size + 1 + 1, 0, none⟩ (.int .i64 pz) w.heap.size (by show w.heap.size ≠ w.heap.size + 1 + 1; omega)).trans ((hb2.block w.heap.size (Array.getElem?_eq_some_iff.1 hR1).1).trans hR1)); clear hB2) | (go_at_call 59; (with_reducible refine (must_bad pz _ HZ.out).mono ?_); rintro e w' ⟨rfl, rfl⟩))
      exact senc_bad rfl rfl HA3.out HB3.out HE.out HW3.out rfl
    · rw [if_neg (by simpa using hpz)] at hE
      subst hpz
      obtain ⟨⟨fk, fz⟩, hfe⟩ : ∃ f, findE ks a11 = f := ⟨_, rfl⟩
      rw [hfe] at hE
      cases fk with
      | none =>
        have hfz : fz ≠ 0 := fndE_none hfe
        have hF2 := find_no hF hfe
        have HE := Lib.hid hE
        have HZ := Lib.hid hfz
        clear hE hF hfe hfz
        go_enter_defers Try.func23, Try.ntmps23
        go_wp2_with (first | (go_at_call 28; (with_reducible refine (hI _ hr0).mono ?_); rintro e w1 ⟨rfl, hb1⟩; have hA1 := bxB hA0 hb1; have hB1 := bxB hB0 hb1; have hW1 := bT hb0 hb1; have hR1 := (hb1.block w.heap.size (Array.getElem?_eq_some_iff.1 hR0'.out).1).trans hR0'.out; clear hb1) | (refine wpList_load_row rfl 28 (.tmp 3) rfl w.heap.size rfl 28 #[.int .i64 a0, .int .i64 a1, .int .i64 a2, .int .i64 a3, .int .i64 a4, .int .i64 a5, .int .i64 a6, .int .i64 a7, .int .i64 a8, .int .i64 a9, .int .i64 a10, .int .i64 a11, .int .i64 a12, .int .i64 a13, .int .i64 a14] (0, 0) _ hR1 Try.underlying28 rfl ?_ ?_; (focus (exact infoR))) | (go_at_call 62; (with_reducible refine (hP _).mono ?_); rintro e w2 ⟨v, rfl, ho2, hb2⟩; obtain ⟨vA, vc, rfl, _, _⟩ := own_slice ho2; have hs2 := hb2.size; have hB2 := bxB hB1 hb2; have ho3 := ho2.kept (grownBy_setCell' _ (w.heap.size + 1 + 1) (.int .i64 0)) (.inr (hB2.not_row (by decide) ho2).symm); have cB2 := hB2.cell; have fB2 := hB2.frozen; have HA3 := Lib.hid ((bxB hA1 hb2).other (B' := w.heap.size + 1 + 1) (by omega) (.int .i64 0)); have HB3 := Lib.hid (hB2.set (.int .i64 0)); have cB3 := HB3.out.cell; have HW3 := Lib.hid (bS (g := w.heap.size + 1 + 1) (j := 0) (v := .int .i64 0) (bT hW1 hb2) (by omega)); have HR3 := Lib.hid ((Below.heap_setCell w2 ⟨w.heap.size + 1 + 1, 0, none⟩ (.int .i64 0) w.heap.size (by show w.heap.size ≠ w.heap.size + 1 + 1; omega)).trans ((hb2.block w.heap.size (Array.getElem?_eq_some_iff.1 hR1).1).trans hR1)); clear hB2) | (go_at_call 59; (with_reducible refine (must_ok _).mono ?_); rintro e w9 ⟨rfl, rfl⟩; (try have hc11 := hR11 _ HR3.out)) | (go_at_call 31; (with_reducible refine (hF2 _ HW3.out).mono ?_); rintro e w4 ⟨rfl, hb4⟩; have hs4 : w1.heap.size ≤ w4.heap.size := (by have := hb4.size; simp only [World.size_setCell] at this; omega); have hB4 := (bxB HB3.out hb4).alloc (.cells #[.int .i64 0, .slice none 0 0, .int .i64 0, .int .i64 0] 49); have cB4 := hB4.cell; have fB4 := hB4.frozen; have HA5 := Lib.hid (((bxB HA3.out hb4).alloc (.cells #[.int .i64 0, .slice none 0 0, .int .i64 0, .int .i64 0] 49)).other (B' := w.heap.size + 1 + 1) (by omega) (.int .i64 fz)); have HB5 := Lib.hid (hB4.set (.int .i64 fz)); have cB5 := HB5.out.cell; have HW5 := Lib.hid (bS (g := w.heap.size + 1 + 1) (j := 0) (v := .int .i64 fz) (bA (bT HW3.out hb4) (.cells #[.int .i64 0, .slice none 0 0, .int .i64 0, .int .i64 0] 49)) (by omega)); have ho5 := (own_below (own_below ho3 hb4) (bel1 w4 (.cells #[.int .i64 0, .slice none 0 0, .int .i64 0, .int .i64 0] 49))).kept (grownBy_setCell' _ (w.heap.size + 1 + 1) (.int .i64 fz)) (.inr (hB4.not_row (by decide) (own_below (own_below ho3 hb4) (bel1 w4 (.cells #[.int .i64 0, .slice none 0 0, .int .i64 0, .int .i64 0] 49)))).symm); have hk5 := (Below.heap_setCell (w4.alloc (.cells #[.int .i64 0, .slice none 0 0, .int .i64 0, .int .i64 0] 49)) ⟨w.heap.size + 1 + 1, 0, none⟩ (.int .i64 fz) w4.heap.size (by have h := HB3.out.lt; have h2 := hb4.size; show w4.heap.size ≠ w.heap.size + 1 + 1; omega)).trans (heap_alloc_new w4 (.cells #[.int .i64 0, .slice none 0 0, .int .i64 0, .int .i64 0] 49)); clear hB4 hb4) | (go_at_call 59; (with_reducible refine (must_bad fz _ HZ.out).mono ?_); rintro e w' ⟨rfl, rfl⟩))
        exact senc_bad rfl rfl HA5.out HB5.out HE.out HW5.out rfl
      | some k =>
        have hF2 := find_yes hF hfe k.sec.length rfl
        have hTl := tagS_len k.sec pl
        have hT9 := tagS_9 k.sec pl
        have hTg := fun A' B' c' d' W h1 h2 h3 h4 => sTag_any A' B' c' d' k.sec pl W h1 h2 h3 (by omega) h4 hby
        obtain ⟨n, hn⟩ : ∃ n, k.sec.length = n := ⟨_, rfl⟩
        rw [hn] at hF2 hTg
        simp only at hE
        generalize tagS k.sec pl = T at *
        have hqb : ∀ x ∈ pl ++ T, 0 ≤ x ∧ x < 256 := by
          intro x hx
          rcases List.mem_append.1 hx with hx | hx
          · exact hby x hx
          · have := hT9 x hx; omega
        have hTP := fun A' c' W h => trackPut_any A' c' (pl ++ T) W h hqb
        have hfail := fun h => trackPut_fail (d := pl ++ T) h
        rw [← hE] at hTP hfail
        obtain ⟨q, hq⟩ : ∃ q, pl ++ T = q := ⟨_, rfl⟩
        rw [hq] at hTP
        obtain ⟨rl, rz⟩ := r
        have HQ := Lib.hid hq
        have HTL := Lib.hid hTl
        have HN := Lib.hid hn
        clear hE hF hfe hn hq hTl hT9 hqb
        by_cases hrz : rz = 0
        · subst hrz
          clear hfail
          go_enter_defers Try.func23, Try.ntmps23
          go_wp2_with (first | (go_at_call 28; (with_reducible refine (hI _ hr0).mono ?_); rintro e w1 ⟨rfl, hb1⟩; have hA1 := bxB hA0 hb1; have hB1 := bxB hB0 hb1; have hW1 := bT hb0 hb1; have hR1 := (hb1.block w.heap.size (Array.getElem?_eq_some_iff.1 hR0'.out).1).trans hR0'.out; clear hb1) | (refine wpList_load_row rfl 28 (.tmp 3) rfl w.heap.size rfl 28 #[.int .i64 a0, .int .i64 a1, .int .i64 a2, .int .i64 a3, .int .i64 a4, .int .i64 a5, .int .i64 a6, .int .i64 a7, .int .i64 a8, .int .i64 a9, .int .i64 a10, .int .i64 a11, .int .i64 a12, .int .i64 a13, .int .i64 a14] (0, 0) _ hR1 Try.underlying28 rfl ?_ ?_; (focus (exact infoR))) | (go_at_call 62; (with_reducible refine (hP _).mono ?_); rintro e w2 ⟨v, rfl, ho2, hb2⟩; obtain ⟨vA, vc, rfl, _, _⟩ := own_slice ho2; have hs2 := hb2.size; have hB2 := bxB hB1 hb2; have ho3 := ho2.kept (grownBy_setCell' _ (w.heap.size + 1 + 1) (.int .i64 0)) (.inr (hB2.not_row (by decide) ho2).symm); have cB2 := hB2.cell; have fB2 := hB2.frozen; have HA3 := Lib.hid ((bxB hA1 hb2).other (B' := w.heap.size + 1 + 1) (by omega) (.int .i64 0)); have HB3 := Lib.hid (hB2.set (.int .i64 0)); have cB3 := HB3.out.cell; have HW3 := Lib.hid (bS (g := w.heap.size + 1 + 1) (j := 0) (v := .int .i64 0) (bT hW1 hb2) (by omega)); have HR3 := Lib.hid ((Below.heap_setCell w2 ⟨w.heap.size + 1 + 1, 0, none⟩ (.int .i64 0) w.heap.size (by show w.heap.size ≠ w.heap.size + 1 + 1; omega)).trans ((hb2.block w.heap.size (Array.getElem?_eq_some_iff.1 hR1).1).trans hR1)); clear hB2) | (go_at_call 31; (with_reducible refine (hF2 _ HW3.out).mono ?_); rintro e w4 ⟨⟨Bk, ck, rfl, kk1, kk2, kk3, kk4, kk5, kk6⟩, hb4⟩; have hs4 : w1.heap.size ≤ w4.heap.size := (by have := hb4.size; simp only [World.size_setCell] at this; omega); clear kk6; have hB4 := (bxB HB3.out hb4).alloc (.cells #[.int .i64 k.id, .slice Bk n ck, .int .i64 k.fr, .int .i64 k.til] 49); have cB4 := hB4.cell; have fB4 := hB4.frozen; have HA5 := Lib.hid (((bxB HA3.out hb4).alloc (.cells #[.int .i64 k.id, .slice Bk n ck, .int .i64 k.fr, .int .i64 k.til] 49)).other (B' := w.heap.size + 1 + 1) (by omega) (.int .i64 0)); have HB5 := Lib.hid (hB4.set (.int .i64 0)); have cB5 := HB5.out.cell; have HW5 := Lib.hid (bS (g := w.heap.size + 1 + 1) (j := 0) (v := .int .i64 0) (bA (bT HW3.out hb4) (.cells #[.int .i64 k.id, .slice Bk n ck, .int .i64 k.fr, .int .i64 k.til] 49)) (by omega)); have ho5 := (own_below (own_below ho3 hb4) (bel1 w4 (.cells #[.int .i64 k.id, .slice Bk n ck, .int .i64 k.fr, .int .i64 k.til] 49))).kept (grownBy_setCell' _ (w.heap.size + 1 + 1) (.int .i64 0)) (.inr (hB4.not_row (by decide) (own_below (own_below ho3 hb4) (bel1 w4 (.cells #[.int .i64 k.id, .slice Bk n ck, .int .i64 k.fr, .int .i64 k.til] 49)))).symm); have hk5 := (Below.heap_setCell (w4.alloc (.cells #[.int .i64 k.id, .slice Bk n ck, .int .i64 k.fr, .int .i64 k.til] 49)) ⟨w.heap.size + 1 + 1, 0, none⟩ (.int .i64 0) w4.heap.size (by have h := HB3.out.lt; have h2 := hb4.size; show w4.heap.size ≠ w.heap.size + 1 + 1; omega)).trans (heap_alloc_new w4 (.cells #[.int .i64 k.id, .slice Bk n ck, .int .i64 k.fr, .int .i64 k.til] 49)); have hc51 := cell_of_row _ _ 1 _ _ _ hk5; simp only [List.getElem?_toArray, List.getElem?_cons_zero, List.getElem?_cons_succ] at hc51; clear hB4 hb4 hk5) | (go_at_call 20; (with_reducible refine (hTg Bk vA ck vc _ ?_ ?_ ?_ ?_).mono ?_); (focus (exact kk3.below HW5.out)); (focus (exact RdI.of_own ho5)); (focus (have := rightS_len kk5; have := HN.out; omega)); (focus (exact kk4)); rintro e w6 ⟨v6, rfl, ho6, hb6⟩; obtain ⟨A6, c6, rfl, _, _⟩ := own_slice ho6; have hr6 := RdI.of_own ho6; have hs6 : w1.heap.size ≤ w6.heap.size := (by have := hb6.size; simp only [World.size_setCell, World.size_alloc] at this; omega); have ho7 := own_below ho5 hb6; have HA6 := Lib.hid (bxB HA5.out hb6); have HB6 := Lib.hid (bxB HB5.out hb6); have HW6 := Lib.hid (bT HW5.out hb6); have hz6 := HW6.out.size; clear ho6 ho5 hb6) | (at_builtin; refine wpL_app (k := .u8) rfl _ _ 30 rfl w1.heap.size 5 i0 (.int .u8 0) 1 Try.underlying30 hi hz0 hz1 hz2 rfl _ pl rfl ho7 _ _ T rfl hr6 ?_ ?_ ?_ ?_; (focus (exact maxLen_ge (by have := HTL.out; omega))); (focus (have := HTL.out; omega)); (focus (exact hs6)); intro v8 w8 ho8 hg8 _; rw [HQ.out] at ho8; obtain ⟨A8, c8, rfl, _, _⟩ := own_slice ho8; have hr8 := RdI.of_own ho8; have HA8 := Lib.hid (HA6.out.kept hg8 (HA6.out.not_row (by decide) ho7)); have HB8 := Lib.hid (HB6.out.kept hg8 (HB6.out.not_row (by decide) ho7)); have HW8 := Lib.hid (bG HW6.out hg8 (fun k hk => Nat.le_trans hW1.size (own_ge ho7 k hk))); clear ho7 hg8 ho8) | (go_at_call 63; (with_reducible refine (hTP _ _ _ hr8).mono ?_); rintro e w9 ⟨v9, rfl, ho9, hb9⟩; obtain ⟨A9, c9, rfl, _, _⟩ := own_slice ho9; have hA9 := bxB HA8.out hb9; have cA9 := hA9.cell; have fA9 := hA9.frozen; have hB9 := (bxB HB8.out hb9).other (B' := w.heap.size + 1) (by omega) (.slice A9 rl.length c9); have cB9 := hB9.cell; have fB9 := hB9.frozen; have HA10 := Lib.hid ((hA9.set (.slice A9 rl.length c9)).other (B' := w.heap.size + 1 + 1) (by omega) (.int .i64 0)); have HB10 := Lib.hid (hB9.set (.int .i64 0)); have cB10 := HB10.out.cell; have cA10 := HA10.out.cell; have fA10 := HA10.out.frozen; have HO10 := Lib.hid ((ho9.kept (grownBy_setCell' _ (w.heap.size + 1) (.slice A9 rl.length c9)) (.inr (hA9.not_row (by decide) ho9).symm)).kept (grownBy_setCell' _ (w.heap.size + 1 + 1) (.int .i64 0)) (.inr (hB9.not_row (by decide) (ho9.kept (grownBy_setCell' _ (w.heap.size + 1) (.slice A9 rl.length c9)) (.inr (hA9.not_row (by decide) ho9).symm))).symm)); have HW10 := Lib.hid (bS (g := w.heap.size + 1 + 1) (j := 0) (v := .int .i64 0) (bS (g := w.heap.size + 1) (j := 0) (v := .slice A9 rl.length c9) (bT HW8.out hb9) (by omega)) (by omega)); clear hA9 hB9 ho9 hb9) | (go_at_call 59; (with_reducible refine (must_ok _).mono ?_); rintro e w9 ⟨rfl, rfl⟩; (try have hc11 := hR11 _ HR3.out)))
          refine senc_good rfl rfl ((HA10.out.set _).other (by omega) _) ((HB10.out.other (by omega) _).set _) ?_ (bS (bS HW10.out (by omega)) (by omega)) rfl
          have h2 := HO10.out.kept (grownBy_setCell' _ (w.heap.size + 1) (.slice A9 rl.length c9)) (.inr (HA10.out.not_row (by decide) HO10.out).symm)
          have h3 := h2.kept (grownBy_setCell' _ (w.heap.size + 1 + 1) (.int .i64 0)) (.inr ((HB10.out.other (B' := w.heap.size + 1) (by omega) (.slice A9 rl.length c9)).not_row (by decide) h2).symm)
          exact own_base h3 HW8.out.size
        · have HE := Lib.hid (show ((rl, rz) : List Int × Int) = ([], rz) from Prod.ext (hfail hrz) rfl)
          have HZ := Lib.hid hrz
          clear hfail hrz
          go_enter_defers Try.func23, Try.ntmps23
          go_wp2_with (first | (go_at_call 28; (with_reducible refine (hI _ hr0).mono ?_); rintro e w1 ⟨rfl, hb1⟩; have hA1 := bxB hA0 hb1; have hB1 := bxB hB0 hb1; have hW1 := bT hb0 hb1; have hR1 := (hb1.block w.heap.size (Array.getElem?_eq_some_iff.1 hR0'.out).1).trans hR0'.out; clear hb1) | (refine wpList_load_row rfl 28 (.tmp 3) rfl w.heap.size rfl 28 #[.int .i64 a0, .int .i64 a1, .int .i64 a2, .int .i64 a3, .int .i64 a4, .int .i64 a5, .int .i64 a6, .int .i64 a7, .int .i64 a8, .int .i64 a9, .int .i64 a10, .int .i64 a11, .int .i64 a12, .int .i64 a13, .int .i64 a14] (0, 0) _ hR1 Try.underlying28 rfl ?_ ?_; (focus (exact infoR))) | (go_at_call 62; (with_reducible refine (hP _).mono ?_); rintro e w2 ⟨v, rfl, ho2, hb2⟩; obtain ⟨vA, vc, rfl, _, _⟩ := own_slice ho2; have hs2 := hb2.size; have hB2 := bxB hB1 hb2; have ho3 := ho2.kept (grownBy_setCell' _ (w.heap.size + 1 + 1) (.int .i64 0)) (.inr (hB2.not_row (by decide) ho2).symm); have cB2 := hB2.cell; have fB2 := hB2.frozen; have HA3 := Lib.hid ((bxB hA1 hb2).other (B' := w.heap.size + 1 + 1) (by omega) (.int .i64 0)); have HB3 := Lib.hid (hB2.set (.int .i64 0)); have cB3 := HB3.out.cell; have HW3 := Lib.hid (bS (g := w.heap.size + 1 + 1) (j := 0) (v := .int .i64 0) (bT hW1 hb2) (by omega)); have HR3 := Lib.hid ((Below.heap_setCell w2 ⟨w.heap.size + 1 + 1, 0, none⟩ (.int .i64 0) w.heap.size (by show w.heap.size ≠ w.heap.size + 1 + 1; omega)).trans ((hb2.block w.heap.size (Array.getElem?_eq_some_iff.1 hR1).1).trans hR1)); clear hB2) | (go_at_call 31; (with_reducible refine (hF2 _ HW3.out).mono ?_); rintro e w4 ⟨⟨Bk, ck, rfl, kk1, kk2, kk3, kk4, kk5, kk6⟩, hb4⟩; have hs4 : w1.heap.size ≤ w4.heap.size := (by have := hb4.size; simp only [World.size_setCell] at this; omega); clear kk6; have hB4 := (bxB HB3.out hb4).alloc (.cells #[.int .i64 k.id, .slice Bk n ck, .int .i64 k.fr, .int .i64 k.til] 49); have cB4 := hB4.cell; have fB4 := hB4.frozen; have HA5 := Lib.hid (((bxB HA3.out hb4).alloc (.cells #[.int .i64 k.id, .slice Bk n ck, .int .i64 k.fr, .int .i64 k.til] 49)).other (B' := w.heap.size + 1 + 1) (by omega) (.int .i64 0)); have HB5 := Lib.hid (hB4.set (.int .i64 0)); have cB5 := HB5.out.cell; have HW5 := Lib.hid (bS (g := w.heap.size + 1 + 1) (j := 0) (v := .int .i64 0) (bA (bT HW3.out hb4) (.cells #[.int .i64 k.id, .slice Bk n ck, .int .i64 k.fr, .int .i64 k.til] 49)) (by omega)); have ho5 := (own_below (own_below ho3 hb4) (bel1 w4 (.cells #[.int .i64 k.id, .slice Bk n ck, .int .i64 k.fr, .int .i64 k.til] 49))).kept (grownBy_setCell' _ (w.heap.size + 1 + 1) (.int .i64 0)) (.inr (hB4.not_row (by decide) (own_below (own_below ho3 hb4) (bel1 w4 (.cells #[.int .i64 k.id, .slice Bk n ck, .int .i64 k.fr, .int .i64 k.til] 49)))).symm); have hk5 := (Below.heap_setCell (w4.alloc (.cells #[.int .i64 k.id, .slice Bk n ck, .int .i64 k.fr, .int .i64 k.til] 49)) ⟨w.heap.size + 1 + 1, 0, none⟩ (.int .i64 0) w4.heap.size (by have h := HB3.out.lt; have h2 := hb4.size; show w4.heap.size ≠ w.heap.size + 1 + 1; omega)).trans (heap_alloc_new w4 (.cells #[.int .i64 k.id, .slice Bk n ck, .int .i64 k.fr, .int .i64 k.til] 49)); have hc51 := cell_of_row _ _ 1 _ _ _ hk5; simp only [List.getElem?_toArray, List.getElem?_cons_zero, List.getElem?_cons_succ] at hc51; clear hB4 hb4 hk5) | (go_at_call 20; (with_reducible refine (hTg Bk vA ck vc _ ?_ ?_ ?_ ?_).mono ?_); (focus (exact kk3.below HW5.out)); (focus (exact RdI.of_own ho5)); (focus (have := rightS_len kk5; have := HN.out; omega)); (focus (exact kk4)); rintro e w6 ⟨v6, rfl, ho6, hb6⟩; obtain ⟨A6, c6, rfl, _, _⟩ := own_slice ho6; have hr6 := RdI.of_own ho6; have hs6 : w1.heap.size ≤ w6.heap.size := (by have := hb6.size; simp only [World.size_setCell, World.size_alloc] at this; omega); have ho7 := own_below ho5 hb6; have HA6 := Lib.hid (bxB HA5.out hb6); have HB6 := Lib.hid (bxB HB5.out hb6); have HW6 := Lib.hid (bT HW5.out hb6); have hz6 := HW6.out.size; clear ho6 ho5 hb6) | (at_builtin; refine wpL_app (k := .u8) rfl _ _ 30 rfl w1.heap.size 5 i0 (.int .u8 0) 1 Try.underlying30 hi hz0 hz1 hz2 rfl _ pl rfl ho7 _ _ T rfl hr6 ?_ ?_ ?_ ?_; (focus (exact maxLen_ge (by have := HTL.out; omega))); (focus (have := HTL.out; omega)); (focus (exact hs6)); intro v8 w8 ho8 hg8 _; rw [HQ.out] at ho8; obtain ⟨A8, c8, rfl, _, _⟩ := own_slice ho8; have hr8 := RdI.of_own ho8; have HA8 := Lib.hid (HA6.out.kept hg8 (HA6.out.not_row (by decide) ho7)); have HB8 := Lib.hid (HB6.out.kept hg8 (HB6.out.not_row (by decide) ho7)); have HW8 := Lib.hid (bG HW6.out hg8 (fun k hk => Nat.le_trans hW1.size (own_ge ho7 k hk))); clear ho7 hg8 ho8) | (go_at_call 63; (with_reducible refine (hTP _ _ _ hr8).mono ?_); rintro e w9 ⟨v9, rfl, ho9, hb9⟩; obtain ⟨A9, c9, rfl, _, _⟩ := own_slice ho9; have hA9 := bxB HA8.out hb9; have cA9 := hA9.cell; have fA9 := hA9.frozen; have hB9 := (bxB HB8.out hb9).other (B' := w.heap.size + 1) (by omega) (.slice A9 rl.length c9); have cB9 := hB9.cell; have fB9 := hB9.frozen; have HA10 := Lib.hid ((hA9.set (.slice A9 rl.length c9)).other (B' := w.heap.size + 1 + 1) (by omega) (.int .i64 rz)); have HB10 := Lib.hid (hB9.set (.int .i64 rz)); have cB10 := HB10.out.cell; have cA10 := HA10.out.cell; have fA10 := HA10.out.frozen; have HO10 := Lib.hid ((ho9.kept (grownBy_setCell' _ (w.heap.size + 1) (.slice A9 rl.length c9)) (.inr (hA9.not_row (by decide) ho9).symm)).kept (grownBy_setCell' _ (w.heap.size + 1 + 1) (.int .i64 rz)) (.inr (hB9.not_row (by decide) (ho9.kept (grownBy_setCell' _ (w.heap.size + 1) (.slice A9 rl.length c9)) (.inr (hA9.not_row (by decide) ho9).symm))).symm)); have HW10 := Lib.hid (bS (g := w.heap.size + 1 + 1) (j := 0) (v := .int .i64 rz) (bS (g := w.heap.size + 1) (j := 0) (v := .slice A9 rl.length c9) (bT HW8.out hb9) (by omega)) (by omega)); clear hA9 hB9 ho9 hb9) | (go_at_call 59; (with_reducible refine (must_ok _).mono ?_); rintro e w9 ⟨rfl, rfl⟩; (try have hc11 := hR11 _ HR3.out)) | (go_at_call 59; (with_reducible refine (must_bad rz _ HZ.out).mono ?_); rintro e w' ⟨rfl, rfl⟩))
          exact senc_bad rfl rfl HA10.out HB10.out HE.out HW10.out rfl
end Go.Proofs.Ytachkhjbckapoaa

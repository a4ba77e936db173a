/- Layer 11: track.Get. No condition. -/
import Derived.Test.YtachkhjbckapoaaT24
import Derived.Defers
import Derived.Recover
namespace Go.Proofs.Ytachkhjbckapoaa
open Go.RowKit
set_option linter.unusedVariables false
set_option maxRecDepth 100000
set_option linter.unusedSimpArgs false

set_option maxHeartbeats 1000000 in
theorem tcatch_panicking (p q : Nat) (n : Int) (older : List PanicEntry) (w : World) (u v : Value) (hp : Boxed w p 30 u) (hq : Boxed w q 31 v) (hne : p ≠ q) :
    CallsD Try.prog 107 #[.pointer (some ⟨p, 0, none⟩), .pointer (some ⟨q, 0, none⟩)] (.panicking ({ v := .iface 31 (.int .i64 n), recovered := false } :: older)) w fun e u' w' =>
      e = .returned (.tuple #[]) ∧ u' = .panicking ({ v := .iface 31 (.int .i64 n), recovered := true } :: older) ∧ w' = ((w.setCell ⟨p, 0, none⟩ (.slice none 0 0)).setCell ⟨q, 0, none⟩ (.int .i64 2)).setCell ⟨q, 0, none⟩ (.int .i64 n) := by
  refine callsD_of_wpS Try.func107 rfl fun c₀ cs hu => ?_
  have hc := hp.cell
  have hf := hp.frozen
  have h1 := hp.set (.slice none 0 0)
  have hq1 : Boxed (w.setCell ⟨p, 0, none⟩ (.slice none 0 0)) q 31 v := hq.other hne.symm _
  have hc1 := hq1.cell
  have hf1 := hq1.frozen
  have hq2 := hq1.set (.int .i64 2)
  have hc2 := hq2.cell
  have hf2 := hq2.frozen
  have hnq : ∀ (w : World), (binOp BinOp.neq 20 (.iface 31 (.int .i64 n)) .nilIface).run Try.prog w = .ok (.bool true) w := fun _ => rfl
  have hta : ∀ (w : World), (Instr.typeAssert (.iface 31 (.int .i64 n)) 20 31 true).run Try.prog w = .ok (.tuple #[.int .i64 n, .bool true]) w := fun _ => rfl
  clear hp hq h1 hq1 hq2
  simp only [Try.ntmps107, List.size_toArray, List.length_cons, List.length_nil, Nat.reduceAdd, Nat.reduceSub, Array.replicate_succ, Array.replicate_zero, List.push_toArray, List.append_toArray, List.nil_append, List.cons_append]
  apply wpS_seq
  apply wpS_region
  simp [wpOpsS, go_sem, recoverD, hu, Try.ntmps107, Exit.thenS]
  refine wpS_of_wp ?_
  go_wp2
  exact ⟨rfl, _, rfl, _, results_none rfl _ _ _, rfl, rfl, rfl⟩
set_option maxHeartbeats 1000000 in
theorem tcatch_idle (p q : Addr) (w : World) :
    CallsD Try.prog 107 #[.pointer (some p), .pointer (some q)] .returning w fun e u' w' => e = .returned (.tuple #[]) ∧ u' = .returning ∧ w' = w := by
  refine callsD_of_wpS Try.func107 rfl fun c₀ cs hu => ?_
  have hnq : ∀ (w : World), (binOp BinOp.neq 20 .nilIface .nilIface).run Try.prog w = .ok (.bool false) w := fun _ => rfl
  simp only [Try.ntmps107, List.size_toArray, List.length_cons, List.length_nil, Nat.reduceAdd, Nat.reduceSub, Array.replicate_succ, Array.replicate_zero, List.push_toArray, List.append_toArray, List.nil_append, List.cons_append]
  apply wpS_seq
  apply wpS_region
  simp [wpOpsS, go_sem, recoverD, hu, Try.ntmps107, Exit.thenS]
  refine wpS_of_wp ?_
  go_wp2
  exact ⟨rfl, .returning, by cases c₀; simp_all, _, results_none rfl _ _ _, rfl, rfl, rfl⟩
set_option maxHeartbeats 2000000 in
theorem equal8_any (A B : Option Addr) (c d : Nat) (l m : List Int) (w : World) (hr : RdI w .u8 A l) (hs : RdI w .u8 B m) (hl : l.length ≤ 9223372036854775807) (hm : m.length ≤ 9223372036854775807) :
    Calls Try.prog 109 #[.slice A l.length c, .slice B m.length d] w (SameRet l m w) := by
  by_cases hlen : l.length = m.length
  · have hd : ((l.length : Int) != (m.length : Int)) = false := by simp only [bne_eq_false_iff_eq]; omega
    have HL := Lib.hid hlen
    have hle : l.length ≤ m.length := by omega
    clear hlen
    go_enter Try.func109, Try.ntmps109
    go_wp2
    go_loopw [5, 13] (fun _ i wr => ∃ k n : Nat, k ≤ l.length ∧ i = .int .i64 k ∧ wr = w.drewN n ∧ Hid ((l.drop k == m.drop k) = (l == m))) (fun _ i _ => l.length - (intOf i).toNat)
    case atStart => exact ⟨0, 0, Nat.zero_le _, rfl, rfl, Lib.hid (by simp)⟩
    case round =>
      obtain ⟨k, n, hk, rfl, rfl, hg⟩ := hrel
      by_cases hlt : k < l.length
      · have hlt2 : k < m.length := by omega
        obtain ⟨ad, rfl, hc⟩ := hr.at_ hlt
        obtain ⟨bd, rfl, hc2⟩ := hs.at_ hlt2
        have e := hg.out
        rw [drop_cons hlt, drop_cons hlt2] at e
        have He := Lib.hid e
        clear e hg
        generalize l.getD k 0 = x at *
        generalize m.getD k 0 = y at *
        by_cases hxy : x = y
        · have hdx : (x != y) = false := by simpa using hxy
          have e := He.out
          have e2 : (l.drop (k + 1) == m.drop (k + 1)) = (l == m) := by rw [← e, hxy]; simp
          have He2 := Lib.hid e2
          clear e e2 He hxy
          go_wp2
          go_quiet (fail)
          go_wp2
          go_roundw
          case rel => exact ⟨k + 1, _, by omega, by go_num, rfl, He2⟩
          case measure => simp [intOf]; omega
        · have hdx : (x != y) = true := by simpa using hxy
          have e := He.out
          have e2 : (l == m) = false := by rw [← e]; simp [hxy]
          have He2 := Lib.hid e2
          clear e e2 He hxy
          go_wp2
          go_quiet (fail)
          go_wp2
          go_ret
          exact ⟨by rw [He2.out] <;> rfl, _, World.drewN_drewN _ _ _⟩
      · have e := hg.out
        rw [List.drop_eq_nil_of_le (show l.length ≤ k by omega), List.drop_eq_nil_of_le (show m.length ≤ k by have := HL.out; omega)] at e
        have He := Lib.hid e
        clear e hg
        go_wp2
        go_ret
        exact ⟨by rw [← He.out] <;> rfl, _, rfl⟩
  · have hd : ((l.length : Int) != (m.length : Int)) = true := by simp only [bne_iff_ne, ne_eq]; omega
    have e : (l == m) = false := by
      cases h : (l == m) with
      | false => rfl
      | true => exact absurd (congrArg List.length (by simpa using h)) hlen
    have He := Lib.hid e
    clear e hlen
    go_enter Try.func109, Try.ntmps109
    go_wp2
    go_ret
    exact ⟨by rw [He.out] <;> rfl, 0, rfl⟩

theorem equal8_len (A B : Option Addr) (c d k : Nat) (l m : List Int) (w : World) (hk : l.length = k) (hr : RdI w .u8 A l) (hs : RdI w .u8 B m) (hl : k ≤ 9223372036854775807) (hm : m.length ≤ 9223372036854775807) :
    Calls Try.prog 109 #[.slice A k c, .slice B m.length d] w (SameRet l m w) := by
  subst hk; exact equal8_any A B c d l m w hr hs hl hm
theorem pack_len (A : Option Addr) (c k : Nat) (l : List Bool) (w : World) (hk : l.length = k) (hr : RdB w A l) (hl : k ≤ 1125899906809856) :
    Calls Try.prog 68 #[.slice A k c] w fun e w' => (∃ g, e = .returned (.slice (some ⟨g, 0, none⟩) ((k + 7) / 8) ((k + 7) / 8)) ∧ w'.ownsRow w.heap.size 5 1 (.slice (some ⟨g, 0, none⟩) ((k + 7) / 8) ((k + 7) / 8)) ((k + 7) / 8) (bv (packB l))) ∧ Below w.heap.size w w' := by
  subst hk; exact pack_any A c l w hr hl
theorem RdB.take {w : World} {A : Option Addr} {l : List Bool} (h : RdB w A l) (k : Nat) : RdB w A (l.take k) := by
  rcases h with rfl | ⟨ad, he, hlt, hc⟩
  · exact .inl (by simp)
  · refine .inr ⟨ad, he, hlt, fun j hj => ?_⟩
    rw [List.length_take] at hj
    rw [hc j (by omega), getD_takeB, if_pos (by omega)]
theorem rd_own_len {w : World} {base e k c : Nat} {A : Option Addr} {l : List Int} (hk : l.length = k) (ho : w.ownsRow base e 1 (.slice A k c) k (bv l)) : RdI w .u8 A l := by subst hk; exact RdI.of_own ho
theorem sg_b {w5 w9 : World} {g U n a : Nat} (h : w9.cell? ⟨g, 0, none⟩ = some (.slice (some ⟨U, 0, none⟩) n n) ∧ w9.cell? ⟨g, 1, none⟩ = some (.int .i64 (a : Int)) ∧ Below w5.heap.size w5 w9) : Below w5.heap.size w5 w9 := h.2.2
theorem sg_drew {w5 w9 : World} {g U n a : Nat} (h : w9.cell? ⟨g, 0, none⟩ = some (.slice (some ⟨U, 0, none⟩) n n) ∧ w9.cell? ⟨g, 1, none⟩ = some (.int .i64 (a : Int)) ∧ Below w5.heap.size w5 w9) : w9.drew.cell? ⟨g, 0, none⟩ = some (.slice (some ⟨U, 0, none⟩) n n) ∧ w9.drew.cell? ⟨g, 1, none⟩ = some (.int .i64 (a : Int)) ∧ Below w5.heap.size w5 w9.drew := ⟨h.1, h.2.1, bD h.2.2⟩
theorem sg_drewN (N : Nat) {w5 w9 : World} {g U n a : Nat} (h : w9.cell? ⟨g, 0, none⟩ = some (.slice (some ⟨U, 0, none⟩) n n) ∧ w9.cell? ⟨g, 1, none⟩ = some (.int .i64 (a : Int)) ∧ Below w5.heap.size w5 w9) : (w9.drewN N).cell? ⟨g, 0, none⟩ = some (.slice (some ⟨U, 0, none⟩) n n) ∧ (w9.drewN N).cell? ⟨g, 1, none⟩ = some (.int .i64 (a : Int)) ∧ Below w5.heap.size w5 (w9.drewN N) := ⟨h.1, h.2.1, bN h.2.2 N⟩
theorem sg_keep {w5 w9 w8 : World} {g U n a : Nat} (h : w9.cell? ⟨g, 0, none⟩ = some (.slice (some ⟨U, 0, none⟩) n n) ∧ w9.cell? ⟨g, 1, none⟩ = some (.int .i64 (a : Int)) ∧ Below w5.heap.size w5 w9) (hb : Below w9.heap.size w9 w8) : w8.cell? ⟨g, 0, none⟩ = some (.slice (some ⟨U, 0, none⟩) n n) ∧ w8.cell? ⟨g, 1, none⟩ = some (.int .i64 (a : Int)) ∧ Below w5.heap.size w5 w8 := ⟨keep_cell hb h.1, keep_cell hb h.2.1, bT h.2.2 hb⟩
theorem tget_out {l : List Int} {w w' : World} {tmps : Array Value} {v : Value} {z : Int} (hp : tmps.getD 2 undef = .pointer (some ⟨w.heap.size, 0, none⟩)) (hq : tmps.getD 3 undef = .pointer (some ⟨w.heap.size + 1, 0, none⟩))
    (h1 : Boxed w' w.heap.size 30 v) (h2 : Boxed w' (w.heap.size + 1) 31 (.int .i64 z)) {r : List Int} (hE : trackGet l = (r, z)) (hr : w'.ownsRow w.heap.size 5 1 v r.length (r.map (.int .u8))) (hb : Below w.heap.size w w') :
    Leaves Try.prog Try.f65 tmps (ByteRetE (trackGet l) w) [] .returning w' :=
  ⟨_, results_cell2 rfl Try.underlying30 Try.underlying31 rfl rfl hp hq h1.cell h2.cell, v, by rw [hE], by rw [hE]; exact hr, hb⟩
theorem new_two (w : World) (u v : Value) (s t : TypeId) : Boxed ((w.alloc (.cells #[u] s)).alloc (.cells #[v] t)) w.heap.size s u ∧ Boxed ((w.alloc (.cells #[u] s)).alloc (.cells #[v] t)) (w.heap.size + 1) t v :=
  ⟨(Boxed.new w s u).alloc _, by have h := Boxed.new (w.alloc (.cells #[u] s)) t v; simpa using h⟩
set_option maxHeartbeats 4000000 in
theorem tget_short (A : Option Addr) (c : Nat) (l : List Int) (w : World) (h : l.length < 2 ∨ 50 < l.length) :
    Calls Try.prog 65 #[.slice A l.length c] w (ByteRetE (trackGet l) w) := by
  have hE : trackGet l = ([], 14) := by unfold trackGet; rw [if_pos h]
  have E := Lib.hid hE
  obtain ⟨h1, h2⟩ := new_two w (.slice none 0 0) (.int .i64 14) 30 31
  have hb := bA (bel1 w (.cells #[.slice none 0 0] 30)) (.cells #[.int .i64 14] 31)
  have hmf : ∀ (fn : Fn) (first cap : Array Value) (w : World), (Instr.makeFunc fn first cap).run Try.prog w = .ok (.func fn first cap) w := fun _ _ _ _ => rfl
  clear hE
  by_cases h2 : l.length < 2
  · have d1 : decide ((l.length : Int) < 2) = true := decide_eq_true (by omega)
    clear h
    go_enter_defers Try.func65, Try.ntmps65
    go_wp2
    exact tget_out rfl rfl h1 (by assumption) E.out (World.ownsRow_nil _ _ _ _) hb
  · have d1 : decide ((l.length : Int) < 2) = false := decide_eq_false (by omega)
    have d2 : decide ((50 : Int) < (l.length : Int)) = true := decide_eq_true (by omega)
    clear h
    go_enter_defers Try.func65, Try.ntmps65
    go_wp2
    exact tget_out rfl rfl h1 (by assumption) E.out (World.ownsRow_nil _ _ _ _) hb
set_option maxHeartbeats 8000000 in
theorem tget_go (A : Option Addr) (c : Nat) (l : List Int) (w : World) (hr : RdI w .u8 A l) (hb : ∀ x ∈ l, 0 ≤ x ∧ x < 256) (h : ¬ (l.length < 2 ∨ 50 < l.length)) :
    Calls Try.prog 65 #[.slice A l.length c] w (ByteRetE (trackGet l) w) := by
  have hmf : ∀ (fn : Fn) (first cap : Array Value) (w : World), (Instr.makeFunc fn first cap).run Try.prog w = .ok (.func fn first cap) w := fun _ _ _ _ => rfl
  have d1 : decide ((l.length : Int) < 2) = false := decide_eq_false (by omega)
  have d2 : decide ((50 : Int) < (l.length : Int)) = false := decide_eq_false (by omega)
  have hbn : 2 ≤ l.length ∧ l.length ≤ 50 := by omega
  obtain ⟨hn2, hn50⟩ := hbn
  obtain ⟨w2, e2, hA, hB, hz2, hb2⟩ := new2 w (.cells #[.slice none 0 0] 30) (.cells #[.int .i64 0] 31)
  have hH := Lib.hid h
  have hU := fun W hW => unpack_any A c l W hW (by omega) hb
  obtain ⟨n, hn⟩ : ∃ n, 8 * l.length = n := ⟨_, rfl⟩
  have hlen := unpackB_len l
  rw [hn] at hU hlen
  have hn16 : 16 ≤ n ∧ n ≤ 400 := by omega
  have hD := fun g U W h1 h2 h3 => digits_any g U n (unpackB l) W h1 h2 hlen (by omega) (by omega) h3
  have HN := Lib.hid hn
  have HL := Lib.hid hlen
  have HB := Lib.hid hb
  clear h hn hlen hb
  have hr2 := hr.below hb2
  go_enter_defers Try.func65, Try.ntmps65
  go_wp2_with (go_at_call 67; (with_reducible refine (hU _ hr2).mono ?_); rintro e w3 ⟨rfl, ho3, hb3⟩)
  have hzz : w.heap.size + 1 + 1 < w3.heap.size := by have h := (ho3.lt _ rfl).2; rwa [hz2] at h
  have hU2 : (unpackB l).length = n := HL.out
  have hL3 : RdB w3 (some ⟨w.heap.size + 1 + 1, 0, none⟩) (unpackB l) := by
    refine rdB_own (base := w.heap.size + 1 + 1) (e := 4) (c := n) ?_
    rw [hU2]
    rw [hz2] at ho3
    exact ho3
  have hA3 : Boxed w3 w.heap.size 30 (.slice none 0 0) := (hb3.block _ (by rw [hz2]; omega)).trans hA
  have hB3 : Boxed w3 (w.heap.size + 1) 31 (.int .i64 0) := (hb3.block _ (by rw [hz2]; omega)).trans hB
  have hr3 := hr2.below hb3
  have hb4 := bA (bT hb2 hb3) (.cells #[.slice (some ⟨w.heap.size + 1 + 1, 0, none⟩) n n, .int .i64 0] 125)
  have hL4 := hL3.below (bel1 w3 (.cells #[.slice (some ⟨w.heap.size + 1 + 1, 0, none⟩) n n, .int .i64 0] 125))
  have hr4 := hr3.below (bel1 w3 (.cells #[.slice (some ⟨w.heap.size + 1 + 1, 0, none⟩) n n, .int .i64 0] 125))
  have hA4 := hA3.alloc (.cells #[.slice (some ⟨w.heap.size + 1 + 1, 0, none⟩) n n, .int .i64 0] 125)
  have hB4 := hB3.alloc (.cells #[.slice (some ⟨w.heap.size + 1 + 1, 0, none⟩) n n, .int .i64 0] 125)
  have hR4 : RdrAt (w3.alloc (.cells #[.slice (some ⟨w.heap.size + 1 + 1, 0, none⟩) n n, .int .i64 0] 125)) w3.heap.size (w.heap.size + 1 + 1) n 0 := heap_alloc_new w3 _
  have D := hD w3.heap.size (w.heap.size + 1 + 1) _ hR4 hL4 (by omega)
  have hE : trackGet l = if (tkRd (unpackB l)).2 ≠ 0 then ([], (tkRd (unpackB l)).2) else if packB ((unpackB l).take (8 * l.length - (tkRd (unpackB l)).1.2)) ≠ l then ([], 14) else ((tkRd (unpackB l)).1.1, 0) := by unfold trackGet; rw [if_neg hH.out]
  rw [HN.out] at hE
  unfold DigRet at D
  obtain ⟨⟨⟨o, m⟩, z⟩, hR⟩ : ∃ R, tkRd (unpackB l) = R := ⟨_, rfl⟩
  have HRd := Lib.hid hR
  rw [hR] at D hE
  simp only at D hE
  have HBd := HB.out
  clear hb3 hb2 hA hB hA3 hB3 hD hU hr2 hr3 hL3 ho3 hR hR4
  by_cases hz : z = 0
  · rw [if_neg (by simpa using hz)] at hE
    obtain ⟨a, ha⟩ : ∃ a, n - m = a := ⟨_, rfl⟩
    rw [ha] at D hE
    have han : a ≤ n := by omega
    have htl : ((unpackB l).take a).length = a := by rw [List.length_take, hU2]; omega
    have hP := fun A c W h => pack_len A c a ((unpackB l).take a) W htl h (by omega)
    have hPl : (packB ((unpackB l).take a)).length = (a + 7) / 8 := by unfold packB; rw [packN_len, htl]
    have hQ := fun A' c' W h1 h2 => equal8_len A' A c' c ((a + 7) / 8) (packB ((unpackB l).take a)) l W hPl h1 h2 (by omega) (by omega)
    have HZ := Lib.hid hz
    have HE := Lib.hid hE
    have HPL := Lib.hid hPl
    clear hE hz ha htl hPl
    obtain ⟨t, ht⟩ : ∃ t, (unpackB l).take a = t := ⟨_, rfl⟩
    rw [ht] at hP hQ
    have hpl := HPL.out
    rw [ht] at hpl
    have HE' := HE.out
    rw [ht] at HE'
    have HE2 := Lib.hid HE'
    have hLt := fun (W : World) (h : RdB W (some ⟨w.heap.size + 1 + 1, 0, none⟩) (unpackB l)) => h.take a
    rw [ht] at hLt
    clear HE' HE HPL
    have HT := Lib.hid ht
    clear ht
    generalize packB t = pk at *
    have HPL := Lib.hid hpl
    clear hpl
    have hq0 : (0 : Int) ≤ (a : Int) := by omega
    have hq1 : (a : Int) ≤ (n : Int) := by omega
    by_cases hpe : pk = l
    · have hq : (pk == l) = true := by simpa using hpe
      have HPE := Lib.hid hpe
      clear hpe
      go_wp2_with (go_at_call 108; (with_reducible refine D.mono ?_); rintro e w5 ⟨hg5, h5, h5'⟩; obtain ⟨v, rfl, ho5, hR5⟩ := h5 HZ.out; obtain ⟨vA, vc, rfl, _, _⟩ := own_slice ho5; clear h5 h5')
      have hA5 := hA4.kept hg5 (by simp; omega)
      have hB5 := hB4.kept hg5 (by simp; omega)
      have hb5 := bG hb4 hg5 (by intro k e; simp at e; omega)
      have hr5 := hr.below hb5
      have hL5 := hLt _ (hL4.kept hg5 (by simp; omega))
      have hs5 := hg5.size
      have hS : w5.cell? ⟨w3.heap.size, 0, none⟩ = some (.slice (some ⟨w.heap.size + 1 + 1, 0, none⟩) n n) ∧ w5.cell? ⟨w3.heap.size, 1, none⟩ = some (.int .i64 (a : Int)) ∧ Below w5.heap.size w5 w5 := ⟨hR5.cells.1, hR5.cells.2, bR _⟩
      have ho5' := own_base ho5 (base' := w.heap.size) (by simp; omega)
      clear hA4 hB4 hb4 hr4 hL4 hg5 hR5 D ho5
      go_region_held3 (fun w9 => w9.cell? ⟨w3.heap.size, 0, none⟩ = some (.slice (some ⟨w.heap.size + 1 + 1, 0, none⟩) n n) ∧ w9.cell? ⟨w3.heap.size, 1, none⟩ = some (.int .i64 (a : Int)) ∧ Below w5.heap.size w5 w9) (first | (go_keep; done) | exact sg_drew (by assumption) | exact sg_drewN _ (by assumption) | exact sg_keep (by assumption) hb6)
        (first | (go_at_call 68; (with_reducible refine (hP _ _ _ ?_).mono ?_); (focus (exact hL5.below (sg_b (by assumption)))); rintro e w6 ⟨⟨g6, rfl, ho6⟩, hb6⟩; have hrd6 := rd_own_len HPL.out ho6) | (go_at_call 109; (with_reducible refine (hQ _ _ _ ?_ ?_).mono ?_); (focus (exact hrd6)); (focus (exact hr5.below (sg_b (by assumption)))); rintro e w7 ⟨rfl, n7, rfl⟩))
      rename_i hHeld
      have hB := sg_b hHeld
      have hb7 := Lib.hid (bT hb5 hB)
      have hA7 : Boxed (w6.drewN n7) w.heap.size 30 (.slice none 0 0) := (hB.block _ hA5.lt).trans hA5
      have hB7 : Boxed (w6.drewN n7) (w.heap.size + 1) 31 (.int .i64 0) := (hB.block _ hB5.lt).trans hB5
      have ho7 : (w6.drewN n7).ownsRow w.heap.size 5 1 (.slice vA o.length vc) o.length (o.map (.int .u8)) := own_below ho5' hB
      obtain ⟨k0, k1⟩ := And.intro hA7.cell hA7.frozen
      have hB8 := hB7.other (B' := w.heap.size) (by omega) (.slice vA o.length vc)
      obtain ⟨k2, k3⟩ := And.intro hB8.cell hB8.frozen
      have hA9 := (hA7.set (.slice vA o.length vc)).other (B' := w.heap.size + 1) (by omega) (.int .i64 0)
      have hB9 := hB8.set (.int .i64 0)
      have ho9 := ((ho7.kept (grownBy_setCell' _ w.heap.size (.slice vA o.length vc)) (.inr (hA7.not_row (by decide) ho7).symm)).kept (grownBy_setCell' _ (w.heap.size + 1) (.int .i64 0)) (.inr (hB8.not_row (by decide) (ho7.kept (grownBy_setCell' _ w.heap.size (.slice vA o.length vc)) (.inr (hA7.not_row (by decide) ho7).symm))).symm))
      have HA9 := Lib.hid hA9
      have HB9 := Lib.hid hB9
      have HO9 := Lib.hid ho9
      have hEf := HE2.out
      clear hHeld hB hA7 hB7 ho7 hB8 hA9 hB9 ho9 hA5 hB5 hb5 hr5 hL5 hs5 hS hb6 ho6 hrd6 ho5' hEf
      go_wp2
      refine leaves_cons (f := 107) (args := #[.pointer (some ⟨w.heap.size, 0, none⟩), .pointer (some ⟨w.heap.size + 1, 0, none⟩)]) (by simp) (by simp [go_sem]) ?_
      refine (tcatch_idle _ _ _).mono ?_
      rintro e u' w' ⟨rfl, rfl, rfl⟩
      refine tget_out rfl rfl HA9.out HB9.out (HE2.out.trans (by rw [if_neg (fun h => h HPE.out)])) HO9.out ?_
      exact bS (bS hb7.out (Nat.le_refl _)) (by omega)
    · have hq : (pk == l) = false := by simpa using hpe
      have HPE := Lib.hid hpe
      clear hpe
      go_wp2_with (go_at_call 108; (with_reducible refine D.mono ?_); rintro e w5 ⟨hg5, h5, h5'⟩; obtain ⟨v, rfl, ho5, hR5⟩ := h5 HZ.out; obtain ⟨vA, vc, rfl, _, _⟩ := own_slice ho5; clear h5 h5')
      have hA5 := hA4.kept hg5 (by simp; omega)
      have hB5 := hB4.kept hg5 (by simp; omega)
      have hb5 := bG hb4 hg5 (by intro k e; simp at e; omega)
      have hr5 := hr.below hb5
      have hL5 := hLt _ (hL4.kept hg5 (by simp; omega))
      have hs5 := hg5.size
      have hS : w5.cell? ⟨w3.heap.size, 0, none⟩ = some (.slice (some ⟨w.heap.size + 1 + 1, 0, none⟩) n n) ∧ w5.cell? ⟨w3.heap.size, 1, none⟩ = some (.int .i64 (a : Int)) ∧ Below w5.heap.size w5 w5 := ⟨hR5.cells.1, hR5.cells.2, bR _⟩
      have ho5' := own_base ho5 (base' := w.heap.size) (by simp; omega)
      clear hA4 hB4 hb4 hr4 hL4 hg5 hR5 D ho5
      go_region_held3 (fun w9 => w9.cell? ⟨w3.heap.size, 0, none⟩ = some (.slice (some ⟨w.heap.size + 1 + 1, 0, none⟩) n n) ∧ w9.cell? ⟨w3.heap.size, 1, none⟩ = some (.int .i64 (a : Int)) ∧ Below w5.heap.size w5 w9) (first | (go_keep; done) | exact sg_drew (by assumption) | exact sg_drewN _ (by assumption) | exact sg_keep (by assumption) hb6)
        (first | (go_at_call 68; (with_reducible refine (hP _ _ _ ?_).mono ?_); (focus (exact hL5.below (sg_b (by assumption)))); rintro e w6 ⟨⟨g6, rfl, ho6⟩, hb6⟩; have hrd6 := rd_own_len HPL.out ho6) | (go_at_call 109; (with_reducible refine (hQ _ _ _ ?_ ?_).mono ?_); (focus (exact hrd6)); (focus (exact hr5.below (sg_b (by assumption)))); rintro e w7 ⟨rfl, n7, rfl⟩))
      rename_i hHeld
      have hB := sg_b hHeld
      have hb7 := Lib.hid (bT hb5 hB)
      have hA7 : Boxed (w6.drewN n7) w.heap.size 30 (.slice none 0 0) := (hB.block _ hA5.lt).trans hA5
      have hB7 : Boxed (w6.drewN n7) (w.heap.size + 1) 31 (.int .i64 0) := (hB.block _ hB5.lt).trans hB5
      have ho7 : (w6.drewN n7).ownsRow w.heap.size 5 1 (.slice vA o.length vc) o.length (o.map (.int .u8)) := own_below ho5' hB
      obtain ⟨k0, k1⟩ := And.intro hA7.cell hA7.frozen
      have hB8 := hB7.other (B' := w.heap.size) (by omega) (.slice none 0 0)
      obtain ⟨k2, k3⟩ := And.intro hB8.cell hB8.frozen
      have hA9 := (hA7.set (.slice none 0 0)).other (B' := w.heap.size + 1) (by omega) (.int .i64 14)
      have hB9 := hB8.set (.int .i64 14)
      have ho9 := ((ho7.kept (grownBy_setCell' _ w.heap.size (.slice none 0 0)) (.inr (hA7.not_row (by decide) ho7).symm)).kept (grownBy_setCell' _ (w.heap.size + 1) (.int .i64 14)) (.inr (hB8.not_row (by decide) (ho7.kept (grownBy_setCell' _ w.heap.size (.slice none 0 0)) (.inr (hA7.not_row (by decide) ho7).symm))).symm))
      have HA9 := Lib.hid hA9
      have HB9 := Lib.hid hB9
      have HO9 := Lib.hid ho9
      have hEf := HE2.out
      clear hHeld hB hA7 hB7 ho7 hB8 hA9 hB9 ho9 hA5 hB5 hb5 hr5 hL5 hs5 hS hb6 ho6 hrd6 ho5' hEf
      go_wp2
      refine leaves_cons (f := 107) (args := #[.pointer (some ⟨w.heap.size, 0, none⟩), .pointer (some ⟨w.heap.size + 1, 0, none⟩)]) (by simp) (by simp [go_sem]) ?_
      refine (tcatch_idle _ _ _).mono ?_
      rintro e u' w' ⟨rfl, rfl, rfl⟩
      refine tget_out rfl rfl HA9.out HB9.out (HE2.out.trans (by rw [if_pos HPE.out])) (World.ownsRow_nil _ _ _ _) ?_
      exact bS (bS hb7.out (Nat.le_refl _)) (by omega)
  · rw [if_pos (by simpa using hz)] at hE
    have HZ := Lib.hid hz
    have HE := Lib.hid hE
    clear hz hE
    go_wp2_with (go_at_call 108; (with_reducible refine D.mono ?_); rintro e w5 ⟨hg5, _, h5⟩; obtain rfl := h5 HZ.out; clear h5)
    have hA5 := hA4.kept hg5 (by simp; omega)
    have hB5 := hB4.kept hg5 (by simp; omega)
    have hb5 := bG hb4 hg5 (by intro k e; simp at e; omega)
    refine leaves_cons (f := 107) (args := #[.pointer (some ⟨w.heap.size, 0, none⟩), .pointer (some ⟨w.heap.size + 1, 0, none⟩)]) (by simp) (by simp [go_sem]) ?_
    refine (tcatch_panicking w.heap.size (w.heap.size + 1) z [] _ _ _ hA5 hB5 (by omega)).mono ?_
    rintro e u' w' ⟨rfl, rfl, rfl⟩
    refine tget_out rfl rfl (((hA5.set _).other (by omega) _).other (by omega) _) ?_ HE.out (World.ownsRow_nil _ _ _ _) ?_
    · exact ((hB5.other (by omega) _).set _).set _
    · exact bS (bS (bS hb5 (Nat.le_refl _)) (by omega)) (by omega)
theorem trackGet_any (A : Option Addr) (c : Nat) (l : List Int) (w : World) (hr : RdI w .u8 A l) (hb : ∀ x ∈ l, 0 ≤ x ∧ x < 256) :
    Calls Try.prog 65 #[.slice A l.length c] w (ByteRetE (trackGet l) w) := by
  by_cases h : l.length < 2 ∨ 50 < l.length
  · exact tget_short A c l w h
  · exact tget_go A c l w hr hb h
end Go.Proofs.Ytachkhjbckapoaa

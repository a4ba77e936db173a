/- Layer 10: what parity's functions compute. Layer 5: what ring.place and ring.Find tell, for all keys. Layer 10: a character's bits. Layer 11: the bits of a value's character, and a check value. Layers 1 and 2, the plain facts: words of 32 bits as natural numbers; what SHA-256's steps compute, and that the document's bit by bit way comes to the same. Layers 1 and 2: a word turned, by the program and by the document. No condition. -/
import Derived.Test.YtnbghgenaolfgaaS01
import Derived.Test.YtnbghgenaolfgaaS00
import Derived.Laws.BitsLemmas
import Derived.Laws.Bits64
namespace Go.Proofs.Ytnbghgenaolfgaa
open Go.RowKit
set_option linter.unusedVariables false
set_option maxRecDepth 100000
set_option linter.unusedSimpArgs false

/-- How many ones, as the library counts them. -/
def popE (x : Int) : Int :=
  let a := IntKind.u64.wrap (bits .and .u64 (x / 2) 6148914691236517205 + bits .and .u64 x 6148914691236517205)
  let b := IntKind.u64.wrap (bits .and .u64 (a / 4) 3689348814741910323 + bits .and .u64 a 3689348814741910323)
  let c := bits .and .u64 (IntKind.u64.wrap (b / 16 + b)) 1085102592571150095
  let d := IntKind.u64.wrap (c + c / 256)
  let e := IntKind.u64.wrap (d + d / 65536)
  let f := IntKind.u64.wrap (e + e / 4294967296)
  bits .and .i64 (wrap64 f) 127
theorem ones64_any (x : Int) (w : World) : Calls Try.prog 172 #[.int .u64 x] w fun e w' => e = .returned (.int .i64 (popE x)) ∧ w = w' := by
  go_enter Try.func172, Try.ntmps172
  go_wp2
  generalize hv : bits BinOp.and IntKind.i64 _ 127 = v
  obtain rfl : popE x = v := hv
  go_ret
  exact ⟨rfl, rfl⟩
theorem ones_any (x : Int) (w : World) : Calls Try.prog 159 #[.int .u64 x] w fun e w' => e = .returned (.int .i64 (popE x)) ∧ w = w' := by
  go_enter Try.func159, Try.ntmps159
  go_wp2_with (go_at_call 172; (with_reducible refine (ones64_any _ _).mono ?_); rintro e w' ⟨rfl, rfl⟩)
  go_ret
  exact ⟨rfl, rfl⟩
/-- How many ones a number below 32 has, even or odd. -/
def oddB (x : Int) : Bool := x % 2 + x / 2 % 2 + x / 4 % 2 + x / 8 % 2 + x / 16 % 2 == 1 || x % 2 + x / 2 % 2 + x / 4 % 2 + x / 8 % 2 + x / 16 % 2 == 3 || x % 2 + x / 2 % 2 + x / 4 % 2 + x / 8 % 2 + x / 16 % 2 == 5
theorem below32 {P : Int → Prop} (h : ∀ n : Fin 32, P ((n.val : Nat) : Int)) {x : Int} (h0 : 0 ≤ x) (h1 : x ≤ 31) : P x := by
  obtain ⟨n, rfl⟩ := Int.eq_ofNat_of_zero_le h0
  exact h ⟨n, by omega⟩
theorem pop_odd {x : Int} (h0 : 0 ≤ x) (h1 : x ≤ 31) : bits .and .i64 (popE x) 1 = if oddB x then 1 else 0 := by
  refine below32 (P := fun x => bits .and .i64 (popE x) 1 = if oddB x then 1 else 0) ?_ h0 h1
  decide +kernel
theorem pwithin_any (n m : Int) (w : World) : Calls Try.prog 133 #[.int .i64 n, .int .i64 m] w fun e w' => e = .returned (.bool (decide (0 ≤ n) && decide (n ≤ m))) ∧ w = w' := by
  by_cases h : 0 ≤ n
  · go_enter Try.func133, Try.ntmps133
    go_wp2
    go_ret
    exact ⟨by simp [h], rfl⟩
  · go_enter Try.func133, Try.ntmps133
    go_wp2
    go_ret
    exact ⟨by rw [show decide (0 ≤ n) = false by simpa using h] <;> rfl, rfl⟩
/-- A value's character. -/
def chr (v : Int) : Int := if oddB v then v else v + 16
/-- What a character says. -/
def chV (c : Int) : Int × Int := if oddB c then (c % 16, 0) else (0, 3)
theorem chr_odd {v : Int} (h0 : 0 ≤ v) (h1 : v ≤ 15) : oddB (chr v) = true ∧ 0 ≤ chr v ∧ chr v ≤ 31 ∧ chr v % 16 = v := by
  refine below32 (P := fun v => v ≤ 15 → oddB (chr v) = true ∧ 0 ≤ chr v ∧ chr v ≤ 31 ∧ chr v % 16 = v) ?_ h0 (by omega) h1
  decide +kernel
theorem chr_val {c : Int} (h0 : 0 ≤ c) (h1 : c ≤ 31) (h : oddB c = true) : chr (c % 16) = c := by
  refine below32 (P := fun c => oddB c = true → chr (c % 16) = c) ?_ h0 h1 h
  decide +kernel
theorem chr_or {v : Int} (h0 : 0 ≤ v) (h1 : v ≤ 15) : bits .or .i64 v (wrap64 (bits .and .i64 (bits .xor .i64 (-1) (popE v)) 1 * 16)) = chr v := by
  refine below32 (P := fun v => v ≤ 15 → bits .or .i64 v (wrap64 (bits .and .i64 (bits .xor .i64 (-1) (popE v)) 1 * 16)) = chr v) ?_ h0 (by omega) h1
  decide +kernel
theorem char_any (v : Int) (w : World) (h0 : 0 ≤ v) (h1 : v ≤ 15) : Calls Try.prog 134 #[.int .i64 v] w fun e w' => e = .returned (.tuple #[.int .i64 (chr v), .int .i64 0]) ∧ w = w' := by
  have hW := pwithin_any v 15 w
  rw [show (decide (0 ≤ v) && decide (v ≤ 15)) = true by simp [h0, h1]] at hW
  have hw : IntKind.u64.wrap v = v := by rw [IntKind.wrap_u64]; omega
  have hO := ones_any v w
  have hs : IntKind.i64.signed = true := rfl
  have HE := Lib.hid (chr_or h0 h1)
  go_enter Try.func134, Try.ntmps134
  go_wp2_with (first | (go_at_call 133; (with_reducible refine hW.mono ?_); rintro e w' ⟨rfl, rfl⟩) | (go_at_call 159; (try rw [hw]); (refine hO.mono ?_); rintro e w' ⟨rfl, rfl⟩))
  go_ret2
  exact ⟨by rw [← HE.out] <;> rfl, rfl⟩
theorem and15 {c : Int} (h0 : 0 ≤ c) (h1 : c ≤ 31) : bits .and .i64 c 15 = c % 16 := by
  refine below32 (P := fun c => bits .and .i64 c 15 = c % 16) ?_ h0 h1
  decide +kernel
theorem pvalue_any (c : Int) (w : World) (h0 : 0 ≤ c) (h1 : c ≤ 31) : Calls Try.prog 158 #[.int .i64 c] w fun e w' => e = .returned (.tuple #[.int .i64 (chV c).1, .int .i64 (chV c).2]) ∧ w = w' := by
  have hW := pwithin_any c 31 w
  rw [show (decide (0 ≤ c) && decide (c ≤ 31)) = true by simp [h0, h1]] at hW
  have hw : IntKind.u64.wrap c = c := by rw [IntKind.wrap_u64]; omega
  have hO := ones_any c w
  have hp := pop_odd h0 h1
  have H15 := Lib.hid (and15 h0 h1)
  cases ho : oddB c with
  | true =>
    rw [ho, if_pos rfl] at hp
    have HV := Lib.hid (show chV c = (c % 16, 0) by unfold chV; rw [if_pos ho])
    go_enter Try.func158, Try.ntmps158
    go_wp2_with (first | (go_at_call 133; (with_reducible refine hW.mono ?_); rintro e w' ⟨rfl, rfl⟩) | (go_at_call 159; (try rw [hw]); (refine hO.mono ?_); rintro e w' ⟨rfl, rfl⟩))
    go_ret2
    exact ⟨by rw [HV.out, ← H15.out] <;> rfl, rfl⟩
  | false =>
    rw [ho, if_neg (by simp)] at hp
    have HV := Lib.hid (show chV c = (0, 3) by unfold chV; rw [if_neg (by simp [ho])])
    go_enter Try.func158, Try.ntmps158
    go_wp2_with (first | (go_at_call 133; (with_reducible refine hW.mono ?_); rintro e w' ⟨rfl, rfl⟩) | (go_at_call 159; (try rw [hw]); (refine hO.mono ?_); rintro e w' ⟨rfl, rfl⟩))
    go_ret2
    exact ⟨by rw [HV.out] <;> rfl, rfl⟩
end Go.Proofs.Ytnbghgenaolfgaa

namespace Go.Proofs.Ytnbghgenaolfgaa
open Go.RowKit Go.Shelf
set_option linter.unusedVariables false
set_option maxRecDepth 100000
set_option linter.unusedSimpArgs false

theorem rightB_id {k : Ky} (h : rightB k = true) : 0 ≤ k.id ∧ k.id ≤ 99 := by
  unfold rightB at h
  simp only [Bool.and_eq_true] at h
  exact wB_iff h.1.1
theorem ringGo_mem : ∀ (l : List Ky) (last : Int), ringGo last l = true → ∀ k ∈ l, rightB k = true ∧ last < k.id
  | [], _, _, k, hk => by simp at hk
  | x :: t, last, h, k, hk => by
    rw [ringGo_cons, Bool.and_eq_true, Bool.and_eq_true, decide_eq_true_eq] at h
    rcases List.mem_cons.1 hk with rfl | hk
    · exact h.1
    · have := ringGo_mem t x.id h.2 k hk
      exact ⟨this.1, by have := h.1.2; omega⟩
theorem ringGo_lt : ∀ (l : List Ky) (last : Int), ringGo last l = true → ∀ (a b : Nat) (hb : b < l.length) (ha : a < b), (l[a]'(by omega)).id < l[b].id
  | [], _, _, a, b, hb, _ => by simp at hb
  | x :: t, last, h, a, b, hb, ha => by
    rw [ringGo_cons, Bool.and_eq_true] at h
    obtain ⟨b, rfl⟩ : ∃ b', b = b' + 1 := ⟨b - 1, by omega⟩
    simp only [List.getElem_cons_succ]
    cases a with
    | zero => exact (ringGo_mem t x.id h.2 _ (List.getElem_mem _)).2
    | succ a =>
      simp only [List.getElem_cons_succ]
      exact ringGo_lt t x.id h.2 a b (by simpa using hb) (by omega)

theorem any_none (l : List Ky) (id : Int) (h : ∀ (j : Nat) (hj : j < l.length), l[j].id < id) : (l.any fun k => k.id == id) = false := by
  rw [List.any_eq_false]
  intro k hk
  obtain ⟨j, hj, rfl⟩ := List.getElem_of_mem hk
  have := h j hj
  simp; omega
theorem any_at (l : List Ky) (id : Int) (a : Nat) (ha : a < l.length) (h1 : ∀ (j : Nat) (hj : j < l.length), j < a → l[j].id < id) (h2 : ∀ (j : Nat) (hj : j < l.length), a ≤ j → id ≤ l[j].id) (hlt : ∀ (a b : Nat) (hb : b < l.length) (ha : a < b), (l[a]'(by omega)).id < l[b].id) : (l.any fun k => k.id == id) = decide (l[a].id - id = 0) := by
  by_cases e : l[a].id = id
  · rw [decide_eq_true (by omega), List.any_eq_true]
    exact ⟨l[a], List.getElem_mem ha, by simp [e]⟩
  · rw [decide_eq_false (by omega), List.any_eq_false]
    intro k hk
    obtain ⟨j, hj, rfl⟩ := List.getElem_of_mem hk
    have g1 := h1 j hj
    have g2 := h2 j hj
    have g3 := h2 a ha (Nat.le_refl _)
    by_cases hja : j < a
    · have := g1 hja; simp; omega
    · by_cases hje : j = a
      · subst hje; simpa using e
      · have := hlt a j hj (by omega); simp; omega

theorem place1_any (B : Option Addr) (n c : Nat) (k : Ky) (id : Int) (w : World) (h1 : 0 ≤ k.id ∧ k.id ≤ 99) (h2 : 0 ≤ id ∧ id ≤ 99) :
    Calls Try.prog 129 #[.agg #[.int .i64 k.id, .slice B n c, .int .i64 k.fr, .int .i64 k.til], .int .i64 id] w fun e w' => e = .returned (.int .i64 (k.id - id)) ∧ Below w.heap.size w w' := by
  obtain ⟨kid, sec, fr, til⟩ := k
  have hw : IntKind.i64.wrap (kid - id) = kid - id := by rw [IntKind.wrap_i64]; simp only at h1; omega
  go_enter Try.func129, Try.ntmps129
  go_wp2
  go_ret
  exact ⟨rfl, (by repeat (first | (with_reducible exact bR _) | (with_reducible refine bT ?_ (by assumption)) | (with_reducible apply bA) | (with_reducible apply bD) | (with_reducible apply bN) | (with_reducible refine bS ?_ (by first | omega | (simp; done) | (simp; omega)))))⟩

set_option maxHeartbeats 4000000 in
theorem bsearch_any (A : Option Addr) (c : Nat) (l : List Ky) (id : Int) (w : World) (hr : RdK w A l) (hl : l.length ≤ 100) (hlt : ∀ (a b : Nat) (hb : b < l.length) (ha : a < b), (l[a]'(by omega)).id < l[b].id) (hid : ∀ k ∈ l, 0 ≤ k.id ∧ k.id ≤ 99) (h2 : 0 ≤ id ∧ id ≤ 99) :
    Calls Try.prog 128 #[.slice A l.length c, .int .i64 id, .func (.func 129) #[] #[]] w fun e w' =>
      (∃ p : Nat, p ≤ l.length ∧ e = .returned (.tuple #[.int .i64 p, .bool (l.any fun k => k.id == id)]) ∧ (∀ (j : Nat) (hj : j < l.length), j < p → l[j].id < id) ∧ (∀ (j : Nat) (hj : j < l.length), p ≤ j → id ≤ l[j].id)) ∧ Below w.heap.size w w' := by
  go_enter Try.func128, Try.ntmps128
  go_wp2
  go_loopw [9, 10] (fun i j wr => ∃ a b : Nat, a ≤ b ∧ b ≤ l.length ∧ i = .int .i64 a ∧ j = .int .i64 b ∧ (∀ (j : Nat) (hj : j < l.length), j < a → l[j].id < id) ∧ (∀ (j : Nat) (hj : j < l.length), b ≤ j → id ≤ l[j].id) ∧ Below w.heap.size w wr) (fun i j _ => (intOf j).toNat - (intOf i).toNat)
  case atStart => exact ⟨0, l.length, by omega, by omega, rfl, rfl, fun j hj h => by omega, fun j hj h => by omega, Below.refl _ _⟩
  case round =>
    obtain ⟨a, b, hab, hbl, rfl, rfl, hlo, hhi, hbW⟩ := hrel
    by_cases hq : a < b
    · obtain ⟨h, hh⟩ : ∃ h, (a + b) / 2 = h := ⟨_, rfl⟩
      have hah : a ≤ h := by omega
      have hhb : h < b := by omega
      have hhe : ((a : Int) + (b : Int)) / 2 = (h : Int) := by omega
      have hl2 : h < l.length := by omega
      rcases hr.below hbW (Nat.le_refl _) with h0 | ⟨ad, rfl, _, hka⟩
      · simp [h0] at hl2
      obtain ⟨B, c2, c0, c1, c22, c3, hcl, hcc, hsr, hsb⟩ := hka h hl2
      have hidk := hid _ (List.getElem_mem hl2)
      have L1 : ∀ (j : Nat) (hj : j < l.length), j < h → l[j].id < l[h].id := fun j hj hjh => hlt j h hl2 hjh
      have L2 : ∀ (j : Nat) (hj : j < l.length), h < j → l[h].id < l[j].id := fun j hj hjh => hlt h j hj hjh
      obtain ⟨ky, hky⟩ : ∃ ky, l[h] = ky := ⟨_, rfl⟩
      have EQ : ∀ (hj : h < l.length), l[h] = ky := fun _ => hky
      rw [hky] at c0 c1 c22 c3 hidk hsr hsb hcl
      have L1' := Lib.hid L1
      have L2' := Lib.hid L2
      have HLO := Lib.hid hlo
      have HHI := Lib.hid hhi
      have HKY := Lib.hid hky
      clear L1 L2 hlo hhi hky hka EQ
      have k0 : (0 : Int) ≤ (h : Int) := by omega
      have k1 : (h : Int) < (l.length : Int) := by omega
      obtain ⟨n2, hn2⟩ : ∃ n2, ky.sec.length = n2 := ⟨_, rfl⟩
      rw [hn2] at c1
      have hP := fun W => place1_any B n2 c2 ky id W hidk h2
      by_cases hcmp : ky.id < id
      · have hd : decide (ky.id - id < 0) = true := by rw [decide_eq_true_eq]; omega
        go_wp2_with (go_at_call 129; (with_reducible refine (hP _).mono ?_); rintro e w' ⟨rfl, hb2⟩)
        go_roundw
        case rel =>
          refine ⟨h + 1, b, by omega, by omega, by go_num, rfl, ?_, HHI.out, bT hbW hb2⟩
          intro j hj hjh
          by_cases e : j = h
          · subst e; have := HKY.out; rw [this]; exact hcmp
          · have := L1'.out j hj (by omega); rw [HKY.out] at this; omega
        case measure => simp [intOf]; omega
      · have hd : decide (ky.id - id < 0) = false := by rw [decide_eq_false_iff_not]; omega
        go_wp2_with (go_at_call 129; (with_reducible refine (hP _).mono ?_); rintro e w' ⟨rfl, hb2⟩)
        go_roundw
        case rel =>
          refine ⟨a, h, by omega, by omega, rfl, by go_num, HLO.out, ?_, bT hbW hb2⟩
          intro j hj hjh
          by_cases e : j = h
          · subst e; have := HKY.out; rw [this]; omega
          · have := L2'.out j hj (by omega); rw [HKY.out] at this; omega
        case measure => simp [intOf]; omega
    · obtain rfl : a = b := by omega
      have HLO := Lib.hid hlo
      have HHI := Lib.hid hhi
      clear hlo hhi
      by_cases hend : a < l.length
      · rcases hr.below hbW (Nat.le_refl _) with h0 | ⟨ad, rfl, _, hka⟩
        · simp [h0] at hend
        obtain ⟨B, c2, c0, c1, c22, c3, hcl, hcc, hsr, hsb⟩ := hka a hend
        have hidk := hid _ (List.getElem_mem hend)
        have HA := any_at l id a hend HLO.out HHI.out hlt
        generalize hky : l[a] = ky at *
        have HAN := Lib.hid HA
        clear HA hka hky
        have k0 : (0 : Int) ≤ (a : Int) := by omega
        have k1 : (a : Int) < (l.length : Int) := by omega
        obtain ⟨n2, hn2⟩ : ∃ n2, ky.sec.length = n2 := ⟨_, rfl⟩
        rw [hn2] at c1
        have hP := fun W => place1_any B n2 c2 ky id W hidk h2
        go_wp2_with (go_at_call 129; (with_reducible refine (hP _).mono ?_); rintro e w' ⟨rfl, hb2⟩)
        go_ret2
        exact ⟨⟨a, by omega, by rw [HAN.out] <;> rfl, HLO.out, HHI.out⟩, bT hbW hb2⟩
      · have HA := any_none l id (fun j hj => HLO.out j hj (by omega))
        have HAN := Lib.hid HA
        clear HA
        have k1 : ¬ (a : Int) < (l.length : Int) := by omega
        go_wp2
        go_ret2
        exact ⟨⟨a, by omega, by rw [HAN.out] <;> rfl, HLO.out, HHI.out⟩, hbW⟩

theorem place_any (A : Option Addr) (c : Nat) (l : List Ky) (id : Int) (w : World) (hr : RdK w A l) (hl : l.length ≤ 100) (hlt : ∀ (a b : Nat) (hb : b < l.length) (ha : a < b), (l[a]'(by omega)).id < l[b].id) (hid : ∀ k ∈ l, 0 ≤ k.id ∧ k.id ≤ 99) (h2 : 0 ≤ id ∧ id ≤ 99) :
    Calls Try.prog 84 #[.slice A l.length c, .int .i64 id] w fun e w' =>
      (∃ p : Nat, p ≤ l.length ∧ e = .returned (.tuple #[.int .i64 p, .bool (l.any fun k => k.id == id)]) ∧ (∀ (j : Nat) (hj : j < l.length), j < p → l[j].id < id) ∧ (∀ (j : Nat) (hj : j < l.length), p ≤ j → id ≤ l[j].id)) ∧ Below w.heap.size w w' := by
  have hB := fun W hW => bsearch_any A c l id W hW hl hlt hid h2
  generalize (l.any fun k => k.id == id) = z at *
  go_enter Try.func84, Try.ntmps84
  go_wp2_with (go_at_call 128; (with_reducible refine (hB _ hr).mono ?_); rintro e w' ⟨⟨p, hp, rfl, hlo, hhi⟩, hb⟩; have HLO := Lib.hid hlo; have HHI := Lib.hid hhi; clear hlo hhi)
  go_ret2
  exact ⟨⟨p, hp, rfl, HLO.out, HHI.out⟩, hb⟩

theorem ring_len {l : List Ky} (h : ringB l = true) : l.length ≤ 100 := by
  have hlt := ringGo_lt l (-1) h
  have hm := ringGo_mem l (-1) h
  have key : ∀ (j : Nat) (hj : j < l.length), (j : Int) ≤ l[j].id := by
    intro j
    induction j with
    | zero => intro hj; have := rightB_id (hm _ (List.getElem_mem hj)).1; omega
    | succ j ih =>
      intro hj
      have h1 := ih (by omega)
      have h2 := hlt j (j + 1) hj (by omega)
      omega
  by_cases h0 : l.length = 0
  · omega
  · have h1 := key (l.length - 1) (by omega)
    have h2 := rightB_id (hm _ (List.getElem_mem (show l.length - 1 < l.length by omega))).1
    omega
/-- What a ring gives for a number: the key, or an error. -/
def findE (l : List Ky) (id : Int) : Option Ky × Int :=
  if ringB l = false then (none, 1) else if 0 ≤ id ∧ id < 100 then match l.find? (fun k => k.id == id) with
    | some k => (some k, 0)
    | none => (none, 10)
  else (none, 10)
def keyV (r : Option Ky) (B : Option Addr) (c : Nat) : Value := match r with
  | some k => .agg #[.int .i64 k.id, .slice B k.sec.length c, .int .i64 k.fr, .int .i64 k.til]
  | none => .agg #[.int .i64 0, .slice none 0 0, .int .i64 0, .int .i64 0]
def FindRet (l : List Ky) (id : Int) (w0 w : World) (e : Ending) (w' : World) : Prop :=
  (∃ (B : Option Addr) (c : Nat), e = .returned (.tuple #[keyV (findE l id).1 B c, .int .i64 (findE l id).2]) ∧ ∀ k, (findE l id).1 = some k → k.sec.length ≤ c ∧ c ≤ 9223372036854775807 ∧ RdI w0 .u8 B k.sec ∧ (∀ x ∈ k.sec, 0 ≤ x ∧ x < 256) ∧ rightB k = true ∧ k.id = id) ∧ Below w.heap.size w w'
theorem find_at {l : List Ky} {id : Int} {p : Nat} (hp : p < l.length) (h1 : ∀ (j : Nat) (hj : j < l.length), j < p → l[j].id < id) (e : l[p].id = id) : l.find? (fun k => k.id == id) = some l[p] := by
  rw [List.find?_eq_some_iff_getElem]
  refine ⟨by simp [e], p, hp, rfl, ?_⟩
  intro j hj
  have := h1 j (by omega) hj
  simp; omega
theorem any_find {l : List Ky} {id : Int} (h : (l.any fun k => k.id == id) = false) : l.find? (fun k => k.id == id) = none := by
  rw [List.find?_eq_none]
  intro k hk
  have := List.any_eq_false.1 h k hk
  simpa using this
theorem any_pos {l : List Ky} {id : Int} {p : Nat} (h : (l.any fun k => k.id == id) = true) (h1 : ∀ (j : Nat) (hj : j < l.length), j < p → l[j].id < id) (h2 : ∀ (j : Nat) (hj : j < l.length), p ≤ j → id ≤ l[j].id) (hlt : ∀ (a b : Nat) (hb : b < l.length) (ha : a < b), (l[a]'(by omega)).id < l[b].id) : ∃ hp : p < l.length, l[p].id = id := by
  obtain ⟨k, hk, he⟩ := List.any_eq_true.1 h
  obtain ⟨j, hj, rfl⟩ := List.getElem_of_mem hk
  simp only [beq_iff_eq] at he
  have hpj : p ≤ j := by
    rcases Nat.lt_or_ge j p with h | h
    · have := h1 j hj h; omega
    · exact h
  have hp : p < l.length := by omega
  refine ⟨hp, ?_⟩
  have g := h2 p hp (Nat.le_refl _)
  by_cases e : p = j
  · subst e; exact he
  · have := hlt p j hj (by omega); omega

theorem keySize (a b c : Int) (v u : Value) : (#[.int .i64 0, u, .int .i64 0, .int .i64 0] : Array Value).size = (#[.int .i64 a, v, .int .i64 b, .int .i64 c] : Array Value).size := rfl
theorem keyOne (a b c : Int) (B : Option Addr) (m n : Nat) : (#[.int .i64 a, .slice B m n, .int .i64 b, .int .i64 c] : Array Value).all (·.oneCell') = true := by simp [Value.oneCell']
theorem infoK : (Try.prog.info? 28).map (·.size) = some 4 := by kernel_rfl
theorem results_keyrow {P : Program} {fn : Func} {t u : Tmp} {T ty : TypeId} (h : fn.results = #[.cell t T, .tmp u]) {d : TypeDesc} (hu : P.underlying T = some d) (hd : (match d with | .struct _ | .array _ _ => true | _ => false) = true)
    {tmps : Array Value} {g : Nat} {v : Value} {cs : Array Value} {fr : Nat × Nat} (hp : tmps.getD t undef = .pointer (some ⟨g, 0, none⟩)) (hv : tmps.getD u undef = v) {w : World} (hg : w.heap[g]? = some (.cells cs ty fr)) (hi : (P.info? T).map (·.size) = some cs.size) :
    (results fn tmps).run P w = .ok (.tuple #[.agg cs, v]) w := by
  have hl := run_loadVar_row (P := P) w g ty T cs fr d hg hu hd hi
  simp only [results, h, Array.mapM_eq_mapM_toList, List.mapM_cons, List.mapM_nil]
  simp [Sem.run_bind, hp, hv, asAddr, hl, Result.andThen]
theorem findOut {l : List Ky} {id : Int} {w0 w w' : World} {tmps : Array Value} (hp : tmps.getD 4 undef = .pointer (some ⟨w.heap.size, 0, none⟩)) (hv : tmps.getD 5 undef = .int .i64 (findE l id).2) (hn : (findE l id).1 = none)
    (hF : w'.heap[w.heap.size]? = some (.cells #[.int .i64 0, .slice none 0 0, .int .i64 0, .int .i64 0] 28 (0, 0))) (hb : Below w.heap.size w w') :
    ∃ u, (results Try.f42 tmps).run Try.prog (w'.setRow w.heap.size #[.int .i64 0, .slice none 0 0, .int .i64 0, .int .i64 0]) = .ok u (w'.setRow w.heap.size #[.int .i64 0, .slice none 0 0, .int .i64 0, .int .i64 0]) ∧ FindRet l id w0 w (.returned u) (w'.setRow w.heap.size #[.int .i64 0, .slice none 0 0, .int .i64 0, .int .i64 0]) :=
  ⟨_, results_keyrow rfl Try.underlying28 rfl hp hv (setRow_heap _ _ _ _ _ _ hF) infoK, ⟨none, 0, by rw [hn] <;> rfl, fun k hk => by rw [hn] at hk; cases hk⟩, setRow_below hb (Nat.le_refl _)⟩

theorem findPost {l : List Ky} {id : Int} {w0 w w' : World} {a : Act} (hd : a.defers = []) (hp : a.tmps.getD 4 undef = .pointer (some ⟨w.heap.size, 0, none⟩)) (hv : a.tmps.getD 5 undef = .int .i64 (findE l id).2) (hn : (findE l id).1 = none)
    (hF : w'.heap[w.heap.size]? = some (.cells #[.int .i64 0, .slice none 0 0, .int .i64 0, .int .i64 0] 28 (0, 0))) (hb : Below w.heap.size w w') : bodyPost Try.prog Try.f42 (FindRet l id w0 w) .ret a (w'.setRow w.heap.size #[.int .i64 0, .slice none 0 0, .int .i64 0, .int .i64 0]) := by
  obtain ⟨u, hu, hR⟩ := findOut hp hv hn hF hb
  exact bodyPost_ret hu hd hR
theorem findPost2 {l : List Ky} {id : Int} {w0 w w' : World} {a : Act} {ky : Ky} {B : Option Addr} {c n : Nat} (hd : a.defers = []) (hp : a.tmps.getD 4 undef = .pointer (some ⟨w.heap.size, 0, none⟩)) (hv : a.tmps.getD 5 undef = .int .i64 0) (hE : findE l id = (some ky, 0)) (hn : ky.sec.length = n)
    (hF : w'.heap[w.heap.size]? = some (.cells #[.int .i64 0, .slice none 0 0, .int .i64 0, .int .i64 0] 28 (0, 0))) (hb : Below w.heap.size w w') (hc : n ≤ c) (hc9 : c ≤ 9223372036854775807) (hr : RdI w0 .u8 B ky.sec) (hby : ∀ x ∈ ky.sec, 0 ≤ x ∧ x < 256) (hrt : rightB ky = true) (hid : ky.id = id) :
    bodyPost Try.prog Try.f42 (FindRet l id w0 w) .ret a (w'.setRow w.heap.size #[.int .i64 ky.id, .slice B n c, .int .i64 ky.fr, .int .i64 ky.til]) := by
  subst hn
  have hb2 : Below w.heap.size w (w'.setRow w.heap.size #[.int .i64 ky.id, .slice B ky.sec.length c, .int .i64 ky.fr, .int .i64 ky.til]) := setRow_below hb (Nat.le_refl _)
  refine bodyPost_ret (results_keyrow rfl Try.underlying28 rfl hp hv (setRow_heap _ _ _ _ _ _ hF) infoK) hd ⟨⟨B, c, by rw [hE] <;> rfl, fun k hk => ?_⟩, hb2⟩
  rw [hE] at hk
  obtain rfl := Option.some.inj hk
  exact ⟨hc, hc9, hr, hby, hrt, hid⟩

set_option maxHeartbeats 4000000 in
theorem ringFind_any (A : Option Addr) (c : Nat) (l : List Ky) (id : Int) (w0 w : World) (hr : RdK w0 A l) (hb9 : Below w0.heap.size w0 w) (hl : l.length ≤ 9223372036854775807) :
    Calls Try.prog 42 #[.slice A l.length c, .int .i64 id] w (FindRet l id w0 w) := by
  have hI := fun W hW => ringIs_any A c l W hW hl
  have hr0 := (hr.below hb9 (Nat.le_refl _)).below (bel1 w (.cells #[.int .i64 0, .slice none 0 0, .int .i64 0, .int .i64 0] 28)) (Nat.le_refl _)
  have hF0 := heap_alloc_new w (.cells #[.int .i64 0, .slice none 0 0, .int .i64 0, .int .i64 0] 28)
  have hs0 : w.heap.size < (w.alloc (.cells #[.int .i64 0, .slice none 0 0, .int .i64 0, .int .i64 0] 28)).heap.size := by simp
  have hb0 := bel1 w (.cells #[.int .i64 0, .slice none 0 0, .int .i64 0, .int .i64 0] 28)
  cases hz : ringB l with
  | false =>
    have e := (show findE l id = (none, 1) by unfold findE; rw [if_pos hz])
    have E1 := Lib.hid (congrArg Prod.fst e)
    have E2 := Lib.hid (congrArg Prod.snd e)
    rw [hz] at hI
    clear e
    go_enter Try.func42, Try.ntmps42
    go_wp2_with (first | (go_at_call 39; (with_reducible refine (hI _ hr0).mono ?_); rintro e w' ⟨rfl, hb⟩; have hF := (hb.block w.heap.size hs0).trans hF0; have hbx := hb0.trans (hb.mono (Nat.le_of_lt hs0))) | (refine wpList_store_row rfl 28 _ _ rfl w.heap.size #[.int .i64 0, .slice none 0 0, .int .i64 0, .int .i64 0] rfl rfl 28 _ hF ?_ ?_ ?_ ?_; (focus (exact infoK)); (focus (exact keySize _ _ _ _ _)); (focus (exact keyOne _ _ _ _ _ _))))
    exact findPost rfl rfl (by rw [E2.out] <;> rfl) E1.out hF hbx
  | true =>
    have hlen := ring_len hz
    have hlt := ringGo_lt l (-1) hz
    have hm := ringGo_mem l (-1) hz
    have hid : ∀ k ∈ l, 0 ≤ k.id ∧ k.id ≤ 99 := fun k hk => rightB_id (hm k hk).1
    rw [hz] at hI
    have HZ := Lib.hid hz
    by_cases h0 : 0 ≤ id
    rotate_left
    · have e := (show findE l id = (none, 10) by unfold findE; rw [if_neg (by simp [hz]), if_neg (by omega)])
      have E1 := Lib.hid (congrArg Prod.fst e)
      have E2 := Lib.hid (congrArg Prod.snd e)
      clear e hlt hm hid
      go_enter Try.func42, Try.ntmps42
      go_wp2_with (first | (go_at_call 39; (with_reducible refine (hI _ hr0).mono ?_); rintro e w' ⟨rfl, hb⟩; have hF := (hb.block w.heap.size hs0).trans hF0; have hbx := hb0.trans (hb.mono (Nat.le_of_lt hs0))) | (refine wpList_store_row rfl 28 _ _ rfl w.heap.size #[.int .i64 0, .slice none 0 0, .int .i64 0, .int .i64 0] rfl rfl 28 _ hF ?_ ?_ ?_ ?_; (focus (exact infoK)); (focus (exact keySize _ _ _ _ _)); (focus (exact keyOne _ _ _ _ _ _))))
      exact findPost rfl rfl (by rw [E2.out] <;> rfl) E1.out hF hbx
    by_cases h1 : id < 100
    rotate_left
    · have e := (show findE l id = (none, 10) by unfold findE; rw [if_neg (by simp [hz]), if_neg (by omega)])
      have E1 := Lib.hid (congrArg Prod.fst e)
      have E2 := Lib.hid (congrArg Prod.snd e)
      clear e hlt hm hid
      go_enter Try.func42, Try.ntmps42
      go_wp2_with (first | (go_at_call 39; (with_reducible refine (hI _ hr0).mono ?_); rintro e w' ⟨rfl, hb⟩; have hF := (hb.block w.heap.size hs0).trans hF0; have hbx := hb0.trans (hb.mono (Nat.le_of_lt hs0))) | (refine wpList_store_row rfl 28 _ _ rfl w.heap.size #[.int .i64 0, .slice none 0 0, .int .i64 0, .int .i64 0] rfl rfl 28 _ hF ?_ ?_ ?_ ?_; (focus (exact infoK)); (focus (exact keySize _ _ _ _ _)); (focus (exact keyOne _ _ _ _ _ _))))
      exact findPost rfl rfl (by rw [E2.out] <;> rfl) E1.out hF hbx
    have hPl := fun W hW => place_any A c l id W hW hlen hlt hid ⟨h0, by omega⟩
    have HLT := Lib.hid hlt
    have HM := Lib.hid hm
    clear hlt hm hid
    cases ha : (l.any fun k => k.id == id) with
    | false =>
      have e := (show findE l id = (none, 10) by unfold findE; rw [if_neg (by simp [hz]), if_pos ⟨h0, h1⟩, any_find ha])
      have E1 := Lib.hid (congrArg Prod.fst e)
      have E2 := Lib.hid (congrArg Prod.snd e)
      rw [ha] at hPl
      clear e ha
      go_enter Try.func42, Try.ntmps42
      go_wp2_with (first | (go_at_call 39; (with_reducible refine (hI _ hr0).mono ?_); rintro e w1 ⟨rfl, hb⟩; have hF1 := (hb.block w.heap.size hs0).trans hF0; have hb1 := hb0.trans (hb.mono (Nat.le_of_lt hs0)); have hr1 := hr0.below hb (Nat.le_refl _)) | (go_at_call 84; (with_reducible refine (hPl _ hr1).mono ?_); rintro e w' ⟨⟨p, hp, rfl, _, _⟩, hb2⟩; have hF := (hb2.block w.heap.size (Array.getElem?_eq_some_iff.1 hF1).1).trans hF1; have hbx := hb1.trans (hb2.mono hb1.size)) | (refine wpList_store_row rfl 28 _ _ rfl w.heap.size #[.int .i64 0, .slice none 0 0, .int .i64 0, .int .i64 0] rfl rfl 28 _ hF ?_ ?_ ?_ ?_; (focus (exact infoK)); (focus (exact keySize _ _ _ _ _)); (focus (exact keyOne _ _ _ _ _ _))))
      exact findPost rfl rfl (by rw [E2.out] <;> rfl) E1.out hF hbx
    | true =>
      have HA := Lib.hid ha
      rw [ha] at hPl
      clear ha
      go_enter Try.func42, Try.ntmps42
      go_wp2_with (first | (go_at_call 39; (with_reducible refine (hI _ hr0).mono ?_); rintro e w1 ⟨rfl, hb⟩; have hF1 := (hb.block w.heap.size hs0).trans hF0; have hb1 := hb0.trans (hb.mono (Nat.le_of_lt hs0)); have hr1 := hr0.below hb (Nat.le_refl _)) | (go_at_call 84; (with_reducible refine (hPl _ hr1).mono ?_); rintro e w' ⟨⟨p, hp, rfl, hlo, hhi⟩, hb2⟩; have hF := (hb2.block w.heap.size (Array.getElem?_eq_some_iff.1 hF1).1).trans hF1; have hbx := hb1.trans (hb2.mono hb1.size); obtain ⟨hpl, hpe⟩ := any_pos HA.out hlo hhi HLT.out; have e := (show findE l id = (some l[p], 0) by unfold findE; rw [if_neg (by simp [HZ.out]), if_pos ⟨h0, h1⟩, find_at hpl hlo hpe]); have E0 := Lib.hid e; have HPE := Lib.hid hpe; have HRT := Lib.hid (HM.out l[p] (List.getElem_mem hpl)).1; clear e hlo hhi hpe; rcases hr with hh0 | ⟨ad, rfl, _, hka⟩; (focus (simp [hh0] at hpl)); obtain ⟨B, c2, c0, c1, c22, c3, hcl, hcc, hsr, hsb⟩ := hka p hpl; generalize hky : l[p] = ky at *; clear hka hky; have k0 : (0 : Int) ≤ (p : Int) := (by omega); have k1 : (p : Int) < (l.length : Int) := (by omega); obtain ⟨n2, hn2⟩ : ∃ n2, ky.sec.length = n2 := ⟨_, rfl⟩; rw [hn2] at c1 hcl; have c0' := keep_cell hbx (keep_cell hb9 c0); have c1' := keep_cell hbx (keep_cell hb9 c1); have c22' := keep_cell hbx (keep_cell hb9 c22); have c3' := keep_cell hbx (keep_cell hb9 c3); clear c0 c1 c22 c3) | (refine wpList_store_row rfl 28 _ _ rfl w.heap.size #[.int .i64 ky.id, .slice B n2 c2, .int .i64 ky.fr, .int .i64 ky.til] rfl rfl 28 _ hF ?_ ?_ ?_ ?_; (focus (exact infoK)); (focus (exact keySize _ _ _ _ _)); (focus (exact keyOne _ _ _ _ _ _))))
      exact findPost2 rfl rfl rfl E0.out hn2 hF hbx hcl hcc hsr hsb HRT.out HPE.out
end Go.Proofs.Ytnbghgenaolfgaa

namespace Go.Proofs.Ytnbghgenaolfgaa
open Go.RowKit
set_option linter.unusedVariables false
set_option maxRecDepth 100000
set_option linter.unusedSimpArgs false

/-- Bools as values. -/
def blv (l : List Bool) : List Value := l.map .bool
/-- The bits of a character, the least first. -/
def bits5 (c : Int) : List Bool := [decide (c % 2 = 1), decide (c / 2 % 2 = 1), decide (c / 4 % 2 = 1), decide (c / 8 % 2 = 1), decide (c / 16 % 2 = 1)]
/-- The bits that are put, behind k rounds. -/
def b5row (c : Int) (k : Nat) : List Value := blv ((bits5 c).take k ++ List.replicate (5 - k) false)
theorem and1 {c : Int} (h0 : 0 ≤ c) (h1 : c ≤ 31) : bits .and .i64 c 1 = c % 2 ∧ bits .and .i64 (c / 2) 1 = c / 2 % 2 ∧ bits .and .i64 (c / 4) 1 = c / 4 % 2 ∧ bits .and .i64 (c / 8) 1 = c / 8 % 2 ∧ bits .and .i64 (c / 16) 1 = c / 16 % 2 := by
  refine below32 (P := fun c => bits .and .i64 c 1 = c % 2 ∧ bits .and .i64 (c / 2) 1 = c / 2 % 2 ∧ bits .and .i64 (c / 4) 1 = c / 4 % 2 ∧ bits .and .i64 (c / 8) 1 = c / 8 % 2 ∧ bits .and .i64 (c / 16) 1 = c / 16 % 2) ?_ h0 h1
  decide +kernel
theorem infoB5 : (Try.prog.info? 141).map (·.size) = some 5 := by kernel_rfl
def PbRet (c : Int) (w : World) (e : Ending) (w' : World) : Prop := e = .returned (.tuple #[.agg (blv (bits5 c)).toArray, .int .i64 0]) ∧ Below w.heap.size w w'
theorem pbPost {c : Int} {w w' : World} {a : Act} {old : Array Value} (hd : a.defers = []) (hp : a.tmps.getD 2 undef = .pointer (some ⟨w.heap.size, 0, none⟩)) (hv : a.tmps.getD 3 undef = .int .i64 0)
    (hF : w'.heap[w.heap.size]? = some (.cells old 141 (0, 0))) (hb : Below w.heap.size w w') : bodyPost Try.prog Try.f135 (PbRet c w) .ret a (w'.setRow w.heap.size (blv (bits5 c)).toArray) :=
  bodyPost_ret (results_keyrow rfl Try.underlying141 rfl hp hv (setRow_heap _ _ _ _ _ _ hF) infoB5) hd ⟨rfl, setRow_below hb (Nat.le_refl _)⟩
set_option maxHeartbeats 2000000 in
theorem pbits_any (c : Int) (w : World) (h0 : 0 ≤ c) (h1 : c ≤ 31) : Calls Try.prog 135 #[.int .i64 c] w (PbRet c w) := by
  have hW := fun W => pwithin_any c 31 W
  rw [show (decide (0 ≤ c) && decide (c ≤ 31)) = true by simp [h0, h1]] at hW
  obtain ⟨a1, a2, a4, a8, a16⟩ := and1 h0 h1
  obtain ⟨w2, e2, hA, hB, hz, hb2⟩ := new2 w (.cells #[.bool false, .bool false, .bool false, .bool false, .bool false] 141) (.cells #[.bool false, .bool false, .bool false, .bool false, .bool false] 141)
  go_enter Try.func135, Try.ntmps135
  go_wp2_with (go_at_call 133; (with_reducible refine (hW _).mono ?_); rintro e w' ⟨rfl, rfl⟩)
  go_loopw [5, 10] (fun _ i wr => ∃ k : Nat, k ≤ 5 ∧ i = .int .i64 k ∧ Hid (wr.heap[w.heap.size + 1]? = some (.cells (b5row c k).toArray 141 (0, 0))) ∧ Hid (wr.heap[w.heap.size]? = some (.cells #[.bool false, .bool false, .bool false, .bool false, .bool false] 141 (0, 0))) ∧ Below w.heap.size w wr) (fun _ i _ => 5 - (intOf i).toNat)
  case atStart => exact ⟨0, Nat.zero_le _, rfl, Lib.hid hB, Lib.hid hA, hb2⟩
  case round =>
    obtain ⟨k, hk, rfl, HB, HA, hbw⟩ := hrel
    have hk5 : k = 0 ∨ k = 1 ∨ k = 2 ∨ k = 3 ∨ k = 4 ∨ k = 5 := by omega
    rcases hk5 with rfl | rfl | rfl | rfl | rfl | rfl
    · have hc := cell_of_row _ _ 0 _ _ _ HB.out
      have hf := row_free HB.out 0
      have HS := Lib.hid (heap_setCell_same wr (w.heap.size + 1) 0 _ _ (.bool (decide (c % 2 = 1))) HB.out)
      have HA2 := Lib.hid ((Below.heap_setCell wr ⟨w.heap.size + 1, 0, none⟩ (.bool (decide (c % 2 = 1))) w.heap.size (by show w.heap.size ≠ w.heap.size + 1; omega)).trans HA.out)
      have hbs := bSg hbw (g := w.heap.size + 1) (j := 0) (by omega) (.bool (decide (c % 2 = 1)))
      go_wp2
      go_roundw
      case rel => exact ⟨1, by omega, by go_num, HS, HA2, hbs⟩
      case measure => simp [intOf]
    · have hc := cell_of_row _ _ 1 _ _ _ HB.out
      have hf := row_free HB.out 1
      have HS := Lib.hid (heap_setCell_same wr (w.heap.size + 1) 1 _ _ (.bool (decide (c / 2 % 2 = 1))) HB.out)
      have HA2 := Lib.hid ((Below.heap_setCell wr ⟨w.heap.size + 1, 1, none⟩ (.bool (decide (c / 2 % 2 = 1))) w.heap.size (by show w.heap.size ≠ w.heap.size + 1; omega)).trans HA.out)
      have hbs := bSg hbw (g := w.heap.size + 1) (j := 1) (by omega) (.bool (decide (c / 2 % 2 = 1)))
      go_wp2
      go_roundw
      case rel => exact ⟨2, by omega, by go_num, HS, HA2, hbs⟩
      case measure => simp [intOf]
    · have hc := cell_of_row _ _ 2 _ _ _ HB.out
      have hf := row_free HB.out 2
      have HS := Lib.hid (heap_setCell_same wr (w.heap.size + 1) 2 _ _ (.bool (decide (c / 4 % 2 = 1))) HB.out)
      have HA2 := Lib.hid ((Below.heap_setCell wr ⟨w.heap.size + 1, 2, none⟩ (.bool (decide (c / 4 % 2 = 1))) w.heap.size (by show w.heap.size ≠ w.heap.size + 1; omega)).trans HA.out)
      have hbs := bSg hbw (g := w.heap.size + 1) (j := 2) (by omega) (.bool (decide (c / 4 % 2 = 1)))
      go_wp2
      go_roundw
      case rel => exact ⟨3, by omega, by go_num, HS, HA2, hbs⟩
      case measure => simp [intOf]
    · have hc := cell_of_row _ _ 3 _ _ _ HB.out
      have hf := row_free HB.out 3
      have HS := Lib.hid (heap_setCell_same wr (w.heap.size + 1) 3 _ _ (.bool (decide (c / 8 % 2 = 1))) HB.out)
      have HA2 := Lib.hid ((Below.heap_setCell wr ⟨w.heap.size + 1, 3, none⟩ (.bool (decide (c / 8 % 2 = 1))) w.heap.size (by show w.heap.size ≠ w.heap.size + 1; omega)).trans HA.out)
      have hbs := bSg hbw (g := w.heap.size + 1) (j := 3) (by omega) (.bool (decide (c / 8 % 2 = 1)))
      go_wp2
      go_roundw
      case rel => exact ⟨4, by omega, by go_num, HS, HA2, hbs⟩
      case measure => simp [intOf]
    · have hc := cell_of_row _ _ 4 _ _ _ HB.out
      have hf := row_free HB.out 4
      have HS := Lib.hid (heap_setCell_same wr (w.heap.size + 1) 4 _ _ (.bool (decide (c / 16 % 2 = 1))) HB.out)
      have HA2 := Lib.hid ((Below.heap_setCell wr ⟨w.heap.size + 1, 4, none⟩ (.bool (decide (c / 16 % 2 = 1))) w.heap.size (by show w.heap.size ≠ w.heap.size + 1; omega)).trans HA.out)
      have hbs := bSg hbw (g := w.heap.size + 1) (j := 4) (by omega) (.bool (decide (c / 16 % 2 = 1)))
      go_wp2
      go_roundw
      case rel => exact ⟨5, by omega, by go_num, HS, HA2, hbs⟩
      case measure => simp [intOf]
    · have HV := Lib.hid (show b5row c 5 = blv (bits5 c) from rfl)
      have hB5 := HB.out
      rw [HV.out] at hB5
      have hc0 : wr.cell? ⟨w.heap.size + 1, 0, none⟩ = some (.bool (decide (c % 2 = 1))) := cell_of_row _ _ 0 _ _ _ hB5
      have hc1 : wr.cell? ⟨w.heap.size + 1, 1, none⟩ = some (.bool (decide (c / 2 % 2 = 1))) := cell_of_row _ _ 1 _ _ _ hB5
      have hc2 : wr.cell? ⟨w.heap.size + 1, 2, none⟩ = some (.bool (decide (c / 4 % 2 = 1))) := cell_of_row _ _ 2 _ _ _ hB5
      have hc3 : wr.cell? ⟨w.heap.size + 1, 3, none⟩ = some (.bool (decide (c / 8 % 2 = 1))) := cell_of_row _ _ 3 _ _ _ hB5
      have hc4 : wr.cell? ⟨w.heap.size + 1, 4, none⟩ = some (.bool (decide (c / 16 % 2 = 1))) := cell_of_row _ _ 4 _ _ _ hB5
      go_wp2_with (refine wpList_store_row rfl 141 _ _ rfl w.heap.size #[.bool (decide (c % 2 = 1)), .bool (decide (c / 2 % 2 = 1)), .bool (decide (c / 4 % 2 = 1)), .bool (decide (c / 8 % 2 = 1)), .bool (decide (c / 16 % 2 = 1))] rfl rfl 141 _ HA.out ?_ ?_ ?_ ?_; (focus (exact infoB5)); (focus rfl); (focus (simp [Value.oneCell'])))
      exact pbPost rfl rfl rfl HA.out hbw
end Go.Proofs.Ytnbghgenaolfgaa

namespace Go.Proofs.Ytnbghgenaolfgaa
open Go.RowKit
set_option linter.unusedVariables false
set_option maxRecDepth 100000
set_option linter.unusedSimpArgs false

/-- The slice at A reads as the bools l. -/
def RdB (w : World) (A : Option Addr) (l : List Bool) : Prop :=
  l = [] ∨ ∃ ad, A = some ad ∧ ad.block < w.heap.size ∧ ∀ j, j < l.length → w.cell? (ad.add j) = some (.bool (l.getD j false))
theorem RdB.at_ {w : World} {A : Option Addr} {l : List Bool} (h : RdB w A l) {j : Nat} (hj : j < l.length) : ∃ ad, A = some ad ∧ w.cell? (ad.add j) = some (.bool (l.getD j false)) := by
  rcases h with rfl | ⟨ad, e, _, hc⟩
  · simp at hj
  · exact ⟨ad, e, hc j hj⟩
theorem RdB.keep {w w' : World} {A : Option Addr} {l : List Bool} (h : RdB w A l) (hs : w.heap.size ≤ w'.heap.size) (hb : ∀ b, b < w.heap.size → w'.heap[b]? = w.heap[b]?) : RdB w' A l := by
  rcases h with h | ⟨ad, e, hlt, hc⟩
  · exact .inl h
  · exact .inr ⟨ad, e, Nat.lt_of_lt_of_le hlt hs, fun j hj => (World.cell?_of_block (hb _ (by rw [add_block]; exact hlt))).trans (hc j hj)⟩
theorem RdB.below {w w' : World} {A : Option Addr} {l : List Bool} (h : RdB w A l) (hb : Below w.heap.size w w') : RdB w' A l := h.keep hb.size fun b hlt => hb.block b hlt
theorem blv_len (l : List Bool) : (blv l).length = l.length := by simp [blv]
theorem blv_at {l : List Bool} {j : Nat} (h : j < l.length) : (blv l)[j]? = some (.bool (l.getD j false)) := by
  unfold blv
  rw [List.getElem?_map, List.getElem?_eq_getElem h, List.getD_eq_getElem?_getD, List.getElem?_eq_getElem h]
  rfl
theorem blv_one (l : List Bool) : ∀ v ∈ blv l, v.oneCell' = true := by
  intro v hv
  obtain ⟨x, _, rfl⟩ := List.mem_map.1 hv
  rfl
theorem rdB_row {w : World} {g : Nat} {l : List Bool} {t : TypeId} (h : w.heap[g]? = some (.cells (blv l).toArray t (0, 0))) : RdB w (some ⟨g, 0, none⟩) l := by
  refine .inr ⟨_, rfl, (Array.getElem?_eq_some_iff.1 h).1, fun j hj => ?_⟩
  have e : (⟨g, 0, none⟩ : Addr).add j = ⟨g, j, none⟩ := by unfold Addr.add; by_cases h : j = 0 <;> simp [h]
  rw [e, cell_of_row w g j _ _ _ h]
  simpa using blv_at hj
theorem rdB_own {w : World} {base e : Nat} {c : Nat} {A : Option Addr} {l : List Bool} (h : w.ownsRow base e 1 (.slice A l.length c) l.length (blv l)) : RdB w A l := by
  rcases h.2 with ⟨e1, h0⟩ | ⟨g, cap, cur, e1, _, hh, h1, h2, _⟩
  · exact .inl (List.eq_nil_of_length_eq_zero h0)
  · obtain ⟨rfl, rfl⟩ : A = some ⟨g, 0, none⟩ ∧ c = cap := by injection e1 with a b c; exact ⟨a, c⟩
    refine .inr ⟨_, rfl, (h.lt g rfl).2, fun j hj => ?_⟩
    exact h.cells rfl _ _ (blv_at hj)
/-- The bits of a value's character. -/
def vbits (v : Int) : List Bool := bits5 (chr v)
theorem vbits_len (v : Int) : (vbits v).length = 5 := rfl
theorem tbits_any (v : Int) (w : World) (h0 : 0 ≤ v) (h1 : v ≤ 15) : Calls Try.prog 93 #[.int .i64 v] w fun e w' => (∃ g, e = .returned (.slice (some ⟨g, 0, none⟩) 5 5) ∧ w.heap.size ≤ g ∧ w'.heap[g]? = some (.cells (blv (vbits v)).toArray 141 (0, 0))) ∧ Below w.heap.size w w' := by
  have hC := fun W => char_any v W h0 h1
  obtain ⟨_, c0, c1, _⟩ := chr_odd h0 h1
  have hB := fun W => pbits_any (chr v) W c0 c1
  unfold vbits
  generalize chr v = c at *
  have hB2 : ∀ W, Calls Try.prog 135 #[.int .i64 c] W fun e w' => e = .returned (.tuple #[.agg #[.bool (decide (c % 2 = 1)), .bool (decide (c / 2 % 2 = 1)), .bool (decide (c / 4 % 2 = 1)), .bool (decide (c / 8 % 2 = 1)), .bool (decide (c / 16 % 2 = 1))], .int .i64 0]) ∧ Below W.heap.size W w' := hB
  go_enter Try.func93, Try.ntmps93
  go_wp2_with (first | (go_at_call 134; (with_reducible refine (hC _).mono ?_); rintro e w' ⟨rfl, rfl⟩) | (go_at_call 135; (with_reducible refine (hB2 _).mono ?_); rintro e w' ⟨rfl, hb⟩))
  go_ret
  exact ⟨⟨_, rfl, hb.size, heap_alloc_new w' _⟩, bA hb _⟩
end Go.Proofs.Ytnbghgenaolfgaa

namespace Go.Proofs.Ytnbghgenaolfgaa
open Go.RowKit
set_option linter.unusedVariables false
set_option maxRecDepth 100000
set_option linter.unusedSimpArgs false

/-- A word turned by k places to the right (k from 0 to 31). -/
def rotN (x k : Nat) : Nat := x / 2 ^ k + x % 2 ^ k * 2 ^ (32 - k)
def chN (e f g : Nat) : Nat := (e &&& f) ^^^ ((4294967295 ^^^ e) &&& g)
def majN (a b c : Nat) : Nat := ((a &&& b) ^^^ (a &&& c)) ^^^ (b &&& c)
def sg0 (x : Nat) : Nat := (rotN x 7 ^^^ rotN x 18) ^^^ x / 8
def sg1 (x : Nat) : Nat := (rotN x 17 ^^^ rotN x 19) ^^^ x / 1024
def bs0 (x : Nat) : Nat := (rotN x 2 ^^^ rotN x 13) ^^^ rotN x 22
def bs1 (x : Nat) : Nat := (rotN x 6 ^^^ rotN x 11) ^^^ rotN x 25

theorem pow_split {k : Nat} (hk : k ≤ 32) : (2 : Nat) ^ k * 2 ^ (32 - k) = 4294967296 := by
  rw [← Nat.pow_add, show k + (32 - k) = 32 by omega]
theorem rot_lt {x k : Nat} (hx : x < 4294967296) (hk : k ≤ 32) : rotN x k < 4294967296 := by
  unfold rotN
  have h := pow_split hk
  have hp : 0 < (2 : Nat) ^ k := Nat.two_pow_pos k
  have h1 : x / 2 ^ k < 2 ^ (32 - k) := by rw [Nat.div_lt_iff_lt_mul hp, Nat.mul_comm, h]; exact hx
  have h2 : x % 2 ^ k ≤ 2 ^ k - 1 := by have := Nat.mod_lt x hp; omega
  have h3 : x % 2 ^ k * 2 ^ (32 - k) ≤ (2 ^ k - 1) * 2 ^ (32 - k) := Nat.mul_le_mul_right _ h2
  rw [Nat.sub_mul, h, Nat.one_mul] at h3
  have h4 : 2 ^ (32 - k) ≤ 4294967296 := by rw [← h]; exact Nat.le_mul_of_pos_left _ hp
  omega
/-- The program's way: two shifts and an or. -/
theorem rot_or {x k : Nat} (hx : x < 4294967296) (hk : k ≤ 32) : x / 2 ^ k ||| x * 2 ^ (32 - k) % 4294967296 = rotN x k := by
  have h := pow_split hk
  have hp : 0 < (2 : Nat) ^ k := Nat.two_pow_pos k
  have h1 : x / 2 ^ k < 2 ^ (32 - k) := by rw [Nat.div_lt_iff_lt_mul hp, Nat.mul_comm, h]; exact hx
  have e : x * 2 ^ (32 - k) % 4294967296 = x % 2 ^ k * 2 ^ (32 - k) := by rw [← h, Nat.mul_mod_mul_right]
  rw [e, Nat.or_comm, Nat.mul_comm, ← Nat.two_pow_add_eq_or_of_lt h1]
  unfold rotN
  rw [Nat.mul_comm, Nat.add_comm]
/-- The document's way: one place at a time. -/
theorem rot_step {x k : Nat} (hx : x < 4294967296) (hk : k < 32) : rotN x k / 2 + rotN x k % 2 * 2147483648 = rotN x (k + 1) := by
  unfold rotN
  obtain ⟨j, hj⟩ : ∃ j, 32 - k = j + 1 := ⟨31 - k, by omega⟩
  have hj2 : 32 - (k + 1) = j := by omega
  rw [hj, hj2, Nat.pow_succ, Nat.pow_succ]
  have hp : 0 < (2 : Nat) ^ k := Nat.two_pow_pos k
  have h := pow_split (show k ≤ 32 by omega)
  rw [hj, Nat.pow_succ] at h
  have e1 : x / 2 ^ k + x % 2 ^ k * (2 ^ j * 2) = x / 2 ^ k + 2 * (x % 2 ^ k * 2 ^ j) := by
    rw [← Nat.mul_assoc, Nat.mul_comm 2]
  have e2 : x / (2 ^ k * 2) = x / 2 ^ k / 2 := by rw [Nat.div_div_eq_div_mul]
  have e3 : x % (2 ^ k * 2) = x % 2 ^ k + 2 ^ k * (x / 2 ^ k % 2) := by rw [Nat.mod_mul]
  have e4 : (2 ^ k * (x / 2 ^ k % 2)) * 2 ^ j = x / 2 ^ k % 2 * 2147483648 := by
    have : 2 ^ k * 2 ^ j = 2147483648 := by
      have h' : 2 ^ k * 2 ^ j * 2 = 4294967296 := by rw [Nat.mul_assoc]; exact h
      omega
    rw [Nat.mul_right_comm, this, Nat.mul_comm]
  rw [e1, e2, e3, Nat.add_mul, e4]
  have m1 : (x / 2 ^ k + 2 * (x % 2 ^ k * 2 ^ j)) / 2 = x / 2 ^ k / 2 + x % 2 ^ k * 2 ^ j := by omega
  have m2 : (x / 2 ^ k + 2 * (x % 2 ^ k * 2 ^ j)) % 2 = x / 2 ^ k % 2 := by omega
  rw [m1, m2, Nat.add_assoc]
theorem rot_zero (x : Nat) : rotN x 0 = x := by simp [rotN, Nat.mod_one]

theorem lt_two32 {x : Nat} : x < 4294967296 ↔ x < 2 ^ 32 := by simp
theorem xor_lt {x y : Nat} (hx : x < 4294967296) (hy : y < 4294967296) : x ^^^ y < 4294967296 := lt_two32.2 (Nat.xor_lt_two_pow (lt_two32.1 hx) (lt_two32.1 hy))
theorem and_lt {x y : Nat} (hx : x < 4294967296) : x &&& y < 4294967296 := Nat.lt_of_le_of_lt Nat.and_le_left hx
theorem and_lt' {x y : Nat} (hy : y < 4294967296) : x &&& y < 4294967296 := Nat.lt_of_le_of_lt Nat.and_le_right hy
theorem ch_lt {e f g : Nat} (hf : f < 4294967296) (hg : g < 4294967296) : chN e f g < 4294967296 := xor_lt (and_lt' hf) (and_lt' hg)
theorem maj_lt {a b c : Nat} (ha : a < 4294967296) (hb : b < 4294967296) : majN a b c < 4294967296 := xor_lt (xor_lt (and_lt ha) (and_lt ha)) (and_lt hb)
theorem sg0_lt {x : Nat} (hx : x < 4294967296) : sg0 x < 4294967296 := xor_lt (xor_lt (rot_lt hx (by decide)) (rot_lt hx (by decide))) (Nat.lt_of_le_of_lt (Nat.div_le_self _ _) hx)
theorem sg1_lt {x : Nat} (hx : x < 4294967296) : sg1 x < 4294967296 := xor_lt (xor_lt (rot_lt hx (by decide)) (rot_lt hx (by decide))) (Nat.lt_of_le_of_lt (Nat.div_le_self _ _) hx)
theorem bs0_lt {x : Nat} (hx : x < 4294967296) : bs0 x < 4294967296 := xor_lt (xor_lt (rot_lt hx (by decide)) (rot_lt hx (by decide))) (rot_lt hx (by decide))
theorem bs1_lt {x : Nat} (hx : x < 4294967296) : bs1 x < 4294967296 := xor_lt (xor_lt (rot_lt hx (by decide)) (rot_lt hx (by decide))) (rot_lt hx (by decide))

theorem bit_val (x k : Nat) : x / 2 ^ k % 2 = (x.testBit k).toNat := by rw [Nat.testBit_eq_decide_div_mod_eq]; rcases Nat.mod_two_eq_zero_or_one (x / 2 ^ k) with h | h <;> simp [h]
theorem mod_succ' (x k : Nat) : x % 2 ^ (k + 1) = x % 2 ^ k + x / 2 ^ k % 2 * 2 ^ k := by rw [Nat.pow_succ, Nat.mod_mul, Nat.mul_comm (2 ^ k)]
theorem ch_bit {e f g k : Nat} (hk : k < 32) : chN e f g / 2 ^ k % 2 = if e / 2 ^ k % 2 = 1 then f / 2 ^ k % 2 else g / 2 ^ k % 2 := by
  simp only [bit_val]
  unfold chN
  have hM : (4294967295 : Nat).testBit k = true := by
    have : (4294967295 : Nat) = 2 ^ 32 - 1 := by decide
    rw [this, Nat.testBit_two_pow_sub_one]; simpa using hk
  rw [Nat.testBit_xor, Nat.testBit_and, Nat.testBit_and, Nat.testBit_xor, hM]
  cases e.testBit k <;> cases f.testBit k <;> cases g.testBit k <;> simp
theorem maj_bit {a b c k : Nat} : majN a b c / 2 ^ k % 2 = if 2 ≤ a / 2 ^ k % 2 + b / 2 ^ k % 2 + c / 2 ^ k % 2 then 1 else 0 := by
  simp only [bit_val]
  unfold majN
  rw [Nat.testBit_xor, Nat.testBit_xor, Nat.testBit_and, Nat.testBit_and, Nat.testBit_and]
  cases a.testBit k <;> cases b.testBit k <;> cases c.testBit k <;> simp

def kN : List Nat := [0x428a2f98, 0x71374491, 0xb5c0fbcf, 0xe9b5dba5, 0x3956c25b, 0x59f111f1, 0x923f82a4, 0xab1c5ed5, 0xd807aa98, 0x12835b01, 0x243185be, 0x550c7dc3, 0x72be5d74, 0x80deb1fe, 0x9bdc06a7, 0xc19bf174, 0xe49b69c1, 0xefbe4786, 0x0fc19dc6, 0x240ca1cc, 0x2de92c6f, 0x4a7484aa, 0x5cb0a9dc, 0x76f988da, 0x983e5152, 0xa831c66d, 0xb00327c8, 0xbf597fc7, 0xc6e00bf3, 0xd5a79147, 0x06ca6351, 0x14292967, 0x27b70a85, 0x2e1b2138, 0x4d2c6dfc, 0x53380d13, 0x650a7354, 0x766a0abb, 0x81c2c92e, 0x92722c85, 0xa2bfe8a1, 0xa81a664b, 0xc24b8b70, 0xc76c51a3, 0xd192e819, 0xd6990624, 0xf40e3585, 0x106aa070, 0x19a4c116, 0x1e376c08, 0x2748774c, 0x34b0bcb5, 0x391c0cb3, 0x4ed8aa4a, 0x5b9cca4f, 0x682e6ff3, 0x748f82ee, 0x78a5636f, 0x84c87814, 0x8cc70208, 0x90befffa, 0xa4506ceb, 0xbef9a3f7, 0xc67178f2]
def h0N : List Nat := [0x6a09e667, 0xbb67ae85, 0x3c6ef372, 0xa54ff53a, 0x510e527f, 0x9b05688c, 0x1f83d9ab, 0x5be0cd19]
/-- All are words of 32 bits. -/
def W32 (l : List Nat) : Prop := ∀ x ∈ l, x < 4294967296
theorem W32.at_ {l : List Nat} (h : W32 l) (i : Nat) : l.getD i 0 < 4294967296 := by
  rw [List.getD_eq_getElem?_getD]
  cases e : l[i]? with
  | none => simp
  | some x => simpa using h x (List.mem_of_getElem? e)
theorem k_W32 : W32 kN := by unfold W32 kN; decide
theorem h0_W32 : W32 h0N := by unfold W32 h0N; decide
/-- The word behind l (of 16 words or more) in the schedule. -/
def nextW (l : List Nat) : Nat := (((l.getD (l.length - 16) 0 + sg0 (l.getD (l.length - 15) 0)) % 4294967296 + l.getD (l.length - 7) 0) % 4294967296 + sg1 (l.getD (l.length - 2) 0)) % 4294967296
def schedN : Nat → List Nat → List Nat
  | 0, l => l
  | n + 1, l => schedN n (l ++ [nextW l])
theorem next_lt (l : List Nat) : nextW l < 4294967296 := Nat.mod_lt _ (by decide)
theorem sched_len : ∀ (n : Nat) (l : List Nat), (schedN n l).length = l.length + n
  | 0, l => rfl
  | n + 1, l => by rw [schedN, sched_len n]; simp; omega
theorem sched_W32 : ∀ (n : Nat) (l : List Nat), W32 l → W32 (schedN n l)
  | 0, l, h => h
  | n + 1, l, h => sched_W32 n _ (fun x hx => by
    rcases List.mem_append.1 hx with hx | hx
    · exact h x hx
    · simp at hx; rw [hx]; exact next_lt l)
theorem sched_snoc : ∀ (n : Nat) (l : List Nat), schedN (n + 1) l = schedN n l ++ [nextW (schedN n l)]
  | 0, l => rfl
  | n + 1, l => by rw [schedN, sched_snoc n]; rfl
def t1N (v : List Nat) (k w : Nat) : Nat := ((((v.getD 7 0 + bs1 (v.getD 4 0)) % 4294967296 + chN (v.getD 4 0) (v.getD 5 0) (v.getD 6 0)) % 4294967296 + k) % 4294967296 + w) % 4294967296
def t2N (v : List Nat) : Nat := (bs0 (v.getD 0 0) + majN (v.getD 0 0) (v.getD 1 0) (v.getD 2 0)) % 4294967296
def rndN (v : List Nat) (k w : Nat) : List Nat := [(t1N v k w + t2N v) % 4294967296, v.getD 0 0, v.getD 1 0, v.getD 2 0, (v.getD 3 0 + t1N v k w) % 4294967296, v.getD 4 0, v.getD 5 0, v.getD 6 0]
def rndsN : List Nat → List Nat → List Nat → List Nat
  | k :: ks, w :: ws, v => rndsN ks ws (rndN v k w)
  | _, _, v => v
def addN (v h : List Nat) : List Nat := List.zipWith (fun x y => (x + y) % 4294967296) v h
def blockN (h w : List Nat) : List Nat := addN (rndsN kN (schedN 48 w) h) h
theorem rnd_len (v : List Nat) (k w : Nat) : (rndN v k w).length = 8 := rfl
theorem rnd_W32 {v : List Nat} (h : W32 v) (k w : Nat) : W32 (rndN v k w) := by
  intro x hx
  simp only [rndN, List.mem_cons, List.not_mem_nil, or_false] at hx
  rcases hx with rfl | rfl | rfl | rfl | rfl | rfl | rfl | rfl
  all_goals first | exact Nat.mod_lt _ (by decide) | exact h.at_ _
theorem block_len {h w : List Nat} (hh : h.length = 8) : (blockN h w).length = 8 := by
  have : ∀ (ks ws v : List Nat), v.length = 8 → (rndsN ks ws v).length = 8 := by
    intro ks
    induction ks with
    | nil => intro ws v hv; exact hv
    | cons k ks ih => intro ws v hv; cases ws with
      | nil => exact hv
      | cons w ws => exact ih ws _ rfl
  unfold blockN addN
  rw [List.length_zipWith, this _ _ _ hh, hh]; rfl
theorem block_W32 {h w : List Nat} : W32 (blockN h w) := by
  intro x hx
  unfold blockN addN at hx
  obtain ⟨i, hi, rfl⟩ := List.mem_iff_getElem.1 hx
  rw [List.getElem_zipWith]
  exact Nat.mod_lt _ (by decide)
end Go.Proofs.Ytnbghgenaolfgaa

namespace Go.Proofs.Ytnbghgenaolfgaa
open Go.RowKit
set_option linter.unusedVariables false
set_option maxRecDepth 100000
set_option linter.unusedSimpArgs false

theorem wraps_u32 (n : Int) (h0 : 0 ≤ n) (h1 : n < 2 ^ 32) : IntKind.u32.wrap n = n := by rw [IntKind.wrap_u32]; omega
theorem or32 {a b : Nat} (ha : a < 4294967296) (hb : b < 4294967296) : bits .or .u32 (a : Int) (b : Int) = ((a ||| b : Nat) : Int) := (bits_nat .u32 32 (by decide) wraps_u32 a b (by omega) (by omega)).2
theorem and32 {a b : Nat} (ha : a < 4294967296) (hb : b < 4294967296) : bits .and .u32 (a : Int) (b : Int) = ((a &&& b : Nat) : Int) := (bits_nat .u32 32 (by decide) wraps_u32 a b (by omega) (by omega)).1
theorem xor32 {a b : Nat} (ha : a < 4294967296) (hb : b < 4294967296) : bits .xor .u32 (a : Int) (b : Int) = ((a ^^^ b : Nat) : Int) := by
  have hx : a ^^^ b < 2 ^ 32 := Nat.xor_lt_two_pow (by omega) (by omega)
  have h1 : (BitVec.ofInt 32 (a : Int)).toNat = a := by rw [BitVec.ofInt_natCast, BitVec.toNat_ofNat]; exact Nat.mod_eq_of_lt (by omega)
  have h2 : (BitVec.ofInt 32 (b : Int)).toNat = b := by rw [BitVec.ofInt_natCast, BitVec.toNat_ofNat]; exact Nat.mod_eq_of_lt (by omega)
  show IntKind.u32.wrap ((BitVec.ofInt 32 (a : Int) ^^^ BitVec.ofInt 32 (b : Int)).toNat : Int) = _
  rw [BitVec.toNat_xor, h1, h2, IntKind.wrap_u32]
  omega
theorem add32 (a b : Nat) : IntKind.u32.wrap ((a : Int) + (b : Int)) = (((a + b) % 4294967296 : Nat) : Int) := by rw [IntKind.wrap_u32]; omega
theorem rot_val {x k : Nat} (hx : x < 4294967296) (hk : k ≤ 32) : bits .or .u32 ((x : Int) / 2 ^ k) (IntKind.u32.wrap ((x : Int) * 2 ^ (32 - k))) = ((rotN x k : Nat) : Int) := by
  have e1 : ((x : Int) / 2 ^ k) = ((x / 2 ^ k : Nat) : Int) := by simp
  have e2 : IntKind.u32.wrap ((x : Int) * 2 ^ (32 - k)) = ((x * 2 ^ (32 - k) % 4294967296 : Nat) : Int) := by rw [IntKind.wrap_u32]; simp
  rw [e1, e2, or32 (Nat.lt_of_le_of_lt (Nat.div_le_self _ _) hx) (Nat.mod_lt _ (by decide)), rot_or hx hk]

theorem rot2 (x : Nat) (w : World) (hx : x < 4294967296) :
    Calls Try.prog 162 #[.int .u32 (x : Int), .int .i64 2] w fun e w' => e = .returned (.int .u32 ((rotN x 2 : Nat) : Int)) ∧ w = w' := by
  have hb : bits .and .u64 2 31 = 2 := by decide
  go_enter Try.func162, Try.ntmps162
  go_wp2
  go_ret
  exact ⟨by rw [← rot_val hx (by decide)]; rfl, rfl⟩

theorem rot6 (x : Nat) (w : World) (hx : x < 4294967296) :
    Calls Try.prog 162 #[.int .u32 (x : Int), .int .i64 6] w fun e w' => e = .returned (.int .u32 ((rotN x 6 : Nat) : Int)) ∧ w = w' := by
  have hb : bits .and .u64 6 31 = 6 := by decide
  go_enter Try.func162, Try.ntmps162
  go_wp2
  go_ret
  exact ⟨by rw [← rot_val hx (by decide)]; rfl, rfl⟩

theorem rot7 (x : Nat) (w : World) (hx : x < 4294967296) :
    Calls Try.prog 162 #[.int .u32 (x : Int), .int .i64 7] w fun e w' => e = .returned (.int .u32 ((rotN x 7 : Nat) : Int)) ∧ w = w' := by
  have hb : bits .and .u64 7 31 = 7 := by decide
  go_enter Try.func162, Try.ntmps162
  go_wp2
  go_ret
  exact ⟨by rw [← rot_val hx (by decide)]; rfl, rfl⟩

theorem rot11 (x : Nat) (w : World) (hx : x < 4294967296) :
    Calls Try.prog 162 #[.int .u32 (x : Int), .int .i64 11] w fun e w' => e = .returned (.int .u32 ((rotN x 11 : Nat) : Int)) ∧ w = w' := by
  have hb : bits .and .u64 11 31 = 11 := by decide
  go_enter Try.func162, Try.ntmps162
  go_wp2
  go_ret
  exact ⟨by rw [← rot_val hx (by decide)]; rfl, rfl⟩

theorem rot13 (x : Nat) (w : World) (hx : x < 4294967296) :
    Calls Try.prog 162 #[.int .u32 (x : Int), .int .i64 13] w fun e w' => e = .returned (.int .u32 ((rotN x 13 : Nat) : Int)) ∧ w = w' := by
  have hb : bits .and .u64 13 31 = 13 := by decide
  go_enter Try.func162, Try.ntmps162
  go_wp2
  go_ret
  exact ⟨by rw [← rot_val hx (by decide)]; rfl, rfl⟩

theorem rot17 (x : Nat) (w : World) (hx : x < 4294967296) :
    Calls Try.prog 162 #[.int .u32 (x : Int), .int .i64 17] w fun e w' => e = .returned (.int .u32 ((rotN x 17 : Nat) : Int)) ∧ w = w' := by
  have hb : bits .and .u64 17 31 = 17 := by decide
  go_enter Try.func162, Try.ntmps162
  go_wp2
  go_ret
  exact ⟨by rw [← rot_val hx (by decide)]; rfl, rfl⟩

theorem rot18 (x : Nat) (w : World) (hx : x < 4294967296) :
    Calls Try.prog 162 #[.int .u32 (x : Int), .int .i64 18] w fun e w' => e = .returned (.int .u32 ((rotN x 18 : Nat) : Int)) ∧ w = w' := by
  have hb : bits .and .u64 18 31 = 18 := by decide
  go_enter Try.func162, Try.ntmps162
  go_wp2
  go_ret
  exact ⟨by rw [← rot_val hx (by decide)]; rfl, rfl⟩

theorem rot19 (x : Nat) (w : World) (hx : x < 4294967296) :
    Calls Try.prog 162 #[.int .u32 (x : Int), .int .i64 19] w fun e w' => e = .returned (.int .u32 ((rotN x 19 : Nat) : Int)) ∧ w = w' := by
  have hb : bits .and .u64 19 31 = 19 := by decide
  go_enter Try.func162, Try.ntmps162
  go_wp2
  go_ret
  exact ⟨by rw [← rot_val hx (by decide)]; rfl, rfl⟩

theorem rot22 (x : Nat) (w : World) (hx : x < 4294967296) :
    Calls Try.prog 162 #[.int .u32 (x : Int), .int .i64 22] w fun e w' => e = .returned (.int .u32 ((rotN x 22 : Nat) : Int)) ∧ w = w' := by
  have hb : bits .and .u64 22 31 = 22 := by decide
  go_enter Try.func162, Try.ntmps162
  go_wp2
  go_ret
  exact ⟨by rw [← rot_val hx (by decide)]; rfl, rfl⟩

theorem rot25 (x : Nat) (w : World) (hx : x < 4294967296) :
    Calls Try.prog 162 #[.int .u32 (x : Int), .int .i64 25] w fun e w' => e = .returned (.int .u32 ((rotN x 25 : Nat) : Int)) ∧ w = w' := by
  have hb : bits .and .u64 25 31 = 25 := by decide
  go_enter Try.func162, Try.ntmps162
  go_wp2
  go_ret
  exact ⟨by rw [← rot_val hx (by decide)]; rfl, rfl⟩

end Go.Proofs.Ytnbghgenaolfgaa

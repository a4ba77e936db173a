/- Layer 5: what ring.place and ring.Find tell, for all keys. No condition. -/
import Derived.Test.YtiogogbkgekkdaaRingIs
import Derived.Test.YtiogogbkgekkdaaArr
import Derived.Test.YtiogogbkgekkdaaBcdJoin
namespace Go.Proofs.Ytiogogbkgekkdaa
open Go.RowKit Go.Shelf
set_option linter.unusedVariables false
set_option maxRecDepth 100000
set_option linter.unusedSimpArgs false

theorem rightB_id {k : Ky} (h : rightB k = true) : 0 ≤ k.id ∧ k.id ≤ 99 := by
  unfold rightB at h
  simp only [Bool.and_eq_true] at h
  exact wB_iff h.1.1
theorem ringGo_mem : ∀ (l : List Ky) (last : Int), ringGo last l = true → ∀ k ∈ l, rightB k = true ∧ last < k.id
  | [], _, _, k, hk => by simp at hk
  | x :: t, last, h, k, hk => by
    rw [ringGo_cons, Bool.and_eq_true, Bool.and_eq_true, decide_eq_true_eq] at h
    rcases List.mem_cons.1 hk with rfl | hk
    · exact h.1
    · have := ringGo_mem t x.id h.2 k hk
      exact ⟨this.1, by have := h.1.2; omega⟩
theorem ringGo_lt : ∀ (l : List Ky) (last : Int), ringGo last l = true → ∀ (a b : Nat) (hb : b < l.length) (ha : a < b), (l[a]'(by omega)).id < l[b].id
  | [], _, _, a, b, hb, _ => by simp at hb
  | x :: t, last, h, a, b, hb, ha => by
    rw [ringGo_cons, Bool.and_eq_true] at h
    obtain ⟨b, rfl⟩ : ∃ b', b = b' + 1 := ⟨b - 1, by omega⟩
    simp only [List.getElem_cons_succ]
    cases a with
    | zero => exact (ringGo_mem t x.id h.2 _ (List.getElem_mem _)).2
    | succ a =>
      simp only [List.getElem_cons_succ]
      exact ringGo_lt t x.id h.2 a b (by simpa using hb) (by omega)

theorem any_none (l : List Ky) (id : Int) (h : ∀ (j : Nat) (hj : j < l.length), l[j].id < id) : (l.any fun k => k.id == id) = false := by
  rw [List.any_eq_false]
  intro k hk
  obtain ⟨j, hj, rfl⟩ := List.getElem_of_mem hk
  have := h j hj
  simp; omega
theorem any_at (l : List Ky) (id : Int) (a : Nat) (ha : a < l.length) (h1 : ∀ (j : Nat) (hj : j < l.length), j < a → l[j].id < id) (h2 : ∀ (j : Nat) (hj : j < l.length), a ≤ j → id ≤ l[j].id) (hlt : ∀ (a b : Nat) (hb : b < l.length) (ha : a < b), (l[a]'(by omega)).id < l[b].id) : (l.any fun k => k.id == id) = decide (l[a].id - id = 0) := by
  by_cases e : l[a].id = id
  · rw [decide_eq_true (by omega), List.any_eq_true]
    exact ⟨l[a], List.getElem_mem ha, by simp [e]⟩
  · rw [decide_eq_false (by omega), List.any_eq_false]
    intro k hk
    obtain ⟨j, hj, rfl⟩ := List.getElem_of_mem hk
    have g1 := h1 j hj
    have g2 := h2 j hj
    have g3 := h2 a ha (Nat.le_refl _)
    by_cases hja : j < a
    · have := g1 hja; simp; omega
    · by_cases hje : j = a
      · subst hje; simpa using e
      · have := hlt a j hj (by omega); simp; omega

theorem place1_any (B : Option Addr) (n c : Nat) (k : Ky) (id : Int) (w : World) (h1 : 0 ≤ k.id ∧ k.id ≤ 99) (h2 : 0 ≤ id ∧ id ≤ 99) :
    Calls Try.prog 129 #[.agg #[.int .i64 k.id, .slice B n c, .int .i64 k.fr, .int .i64 k.til], .int .i64 id] w fun e w' => e = .returned (.int .i64 (k.id - id)) ∧ Below w.heap.size w w' := by
  obtain ⟨kid, sec, fr, til⟩ := k
  have hw : IntKind.i64.wrap (kid - id) = kid - id := by rw [IntKind.wrap_i64]; simp only at h1; omega
  go_enter Try.func129, Try.ntmps129
  go_wp2
  go_ret
  exact ⟨rfl, (by repeat (first | (with_reducible exact bR _) | (with_reducible refine bT ?_ (by assumption)) | (with_reducible apply bA) | (with_reducible apply bD) | (with_reducible apply bN) | (with_reducible refine bS ?_ (by first | omega | (simp; done) | (simp; omega)))))⟩

set_option maxHeartbeats 4000000 in
theorem bsearch_any (A : Option Addr) (c : Nat) (l : List Ky) (id : Int) (w : World) (hr : RdK w A l) (hl : l.length ≤ 100) (hlt : ∀ (a b : Nat) (hb : b < l.length) (ha : a < b), (l[a]'(by omega)).id < l[b].id) (hid : ∀ k ∈ l, 0 ≤ k.id ∧ k.id ≤ 99) (h2 : 0 ≤ id ∧ id ≤ 99) :
    Calls Try.prog 128 #[.slice A l.length c, .int .i64 id, .func (.func 129) #[] #[]] w fun e w' =>
      (∃ p : Nat, p ≤ l.length ∧ e = .returned (.tuple #[.int .i64 p, .bool (l.any fun k => k.id == id)]) ∧ (∀ (j : Nat) (hj : j < l.length), j < p → l[j].id < id) ∧ (∀ (j : Nat) (hj : j < l.length), p ≤ j → id ≤ l[j].id)) ∧ Below w.heap.size w w' := by
  go_enter Try.func128, Try.ntmps128
  go_wp2
  go_loopw [9, 10] (fun i j wr => ∃ a b : Nat, a ≤ b ∧ b ≤ l.length ∧ i = .int .i64 a ∧ j = .int .i64 b ∧ (∀ (j : Nat) (hj : j < l.length), j < a → l[j].id < id) ∧ (∀ (j : Nat) (hj : j < l.length), b ≤ j → id ≤ l[j].id) ∧ Below w.heap.size w wr) (fun i j _ => (intOf j).toNat - (intOf i).toNat)
  case atStart => exact ⟨0, l.length, by omega, by omega, rfl, rfl, fun j hj h => by omega, fun j hj h => by omega, Below.refl _ _⟩
  case round =>
    obtain ⟨a, b, hab, hbl, rfl, rfl, hlo, hhi, hbW⟩ := hrel
    by_cases hq : a < b
    · obtain ⟨h, hh⟩ : ∃ h, (a + b) / 2 = h := ⟨_, rfl⟩
      have hah : a ≤ h := by omega
      have hhb : h < b := by omega
      have hhe : ((a : Int) + (b : Int)) / 2 = (h : Int) := by omega
      have hl2 : h < l.length := by omega
      rcases hr.below hbW (Nat.le_refl _) with h0 | ⟨ad, rfl, _, hka⟩
      · simp [h0] at hl2
      obtain ⟨B, c2, c0, c1, c22, c3, hcl, hcc, hsr, hsb⟩ := hka h hl2
      have hidk := hid _ (List.getElem_mem hl2)
      have L1 : ∀ (j : Nat) (hj : j < l.length), j < h → l[j].id < l[h].id := fun j hj hjh => hlt j h hl2 hjh
      have L2 : ∀ (j : Nat) (hj : j < l.length), h < j → l[h].id < l[j].id := fun j hj hjh => hlt h j hj hjh
      obtain ⟨ky, hky⟩ : ∃ ky, l[h] = ky := ⟨_, rfl⟩
      have EQ : ∀ (hj : h < l.length), l[h] = ky := fun _ => hky
      rw [hky] at c0 c1 c22 c3 hidk hsr hsb hcl
      have L1' := Lib.hid L1
      have L2' := Lib.hid L2
      have HLO := Lib.hid hlo
      have HHI := Lib.hid hhi
      have HKY := Lib.hid hky
      clear L1 L2 hlo hhi hky hka EQ
      have k0 : (0 : Int) ≤ (h : Int) := by omega
      have k1 : (h : Int) < (l.length : Int) := by omega
      obtain ⟨n2, hn2⟩ : ∃ n2, ky.sec.length = n2 := ⟨_, rfl⟩
      rw [hn2] at c1
      have hP := fun W => place1_any B n2 c2 ky id W hidk h2
      by_cases hcmp : ky.id < id
      · have hd : decide (ky.id - id < 0) = true := by rw [decide_eq_true_eq]; omega
        go_wp2_with (go_at_call 129; (with_reducible refine (hP _).mono ?_); rintro e w' ⟨rfl, hb2⟩)
        go_roundw
        case rel =>
          refine ⟨h + 1, b, by omega, by omega, by go_num, rfl, ?_, HHI.out, bT hbW hb2⟩
          intro j hj hjh
          by_cases e : j = h
          · subst e; have := HKY.out; rw [this]; exact hcmp
          · have := L1'.out j hj (by omega); rw [HKY.out] at this; omega
        case measure => simp [intOf]; omega
      · have hd : decide (ky.id - id < 0) = false := by rw [decide_eq_false_iff_not]; omega
        go_wp2_with (go_at_call 129; (with_reducible refine (hP _).mono ?_); rintro e w' ⟨rfl, hb2⟩)
        go_roundw
        case rel =>
          refine ⟨a, h, by omega, by omega, rfl, by go_num, HLO.out, ?_, bT hbW hb2⟩
          intro j hj hjh
          by_cases e : j = h
          · subst e; have := HKY.out; rw [this]; omega
          · have := L2'.out j hj (by omega); rw [HKY.out] at this; omega
        case measure => simp [intOf]; omega
    · obtain rfl : a = b := by omega
      have HLO := Lib.hid hlo
      have HHI := Lib.hid hhi
      clear hlo hhi
      by_cases hend : a < l.length
      · rcases hr.below hbW (Nat.le_refl _) with h0 | ⟨ad, rfl, _, hka⟩
        · simp [h0] at hend
        obtain ⟨B, c2, c0, c1, c22, c3, hcl, hcc, hsr, hsb⟩ := hka a hend
        have hidk := hid _ (List.getElem_mem hend)
        have HA := any_at l id a hend HLO.out HHI.out hlt
        generalize hky : l[a] = ky at *
        have HAN := Lib.hid HA
        clear HA hka hky
        have k0 : (0 : Int) ≤ (a : Int) := by omega
        have k1 : (a : Int) < (l.length : Int) := by omega
        obtain ⟨n2, hn2⟩ : ∃ n2, ky.sec.length = n2 := ⟨_, rfl⟩
        rw [hn2] at c1
        have hP := fun W => place1_any B n2 c2 ky id W hidk h2
        go_wp2_with (go_at_call 129; (with_reducible refine (hP _).mono ?_); rintro e w' ⟨rfl, hb2⟩)
        go_ret2
        exact ⟨⟨a, by omega, by rw [HAN.out] <;> rfl, HLO.out, HHI.out⟩, bT hbW hb2⟩
      · have HA := any_none l id (fun j hj => HLO.out j hj (by omega))
        have HAN := Lib.hid HA
        clear HA
        have k1 : ¬ (a : Int) < (l.length : Int) := by omega
        go_wp2
        go_ret2
        exact ⟨⟨a, by omega, by rw [HAN.out] <;> rfl, HLO.out, HHI.out⟩, hbW⟩

theorem place_any (A : Option Addr) (c : Nat) (l : List Ky) (id : Int) (w : World) (hr : RdK w A l) (hl : l.length ≤ 100) (hlt : ∀ (a b : Nat) (hb : b < l.length) (ha : a < b), (l[a]'(by omega)).id < l[b].id) (hid : ∀ k ∈ l, 0 ≤ k.id ∧ k.id ≤ 99) (h2 : 0 ≤ id ∧ id ≤ 99) :
    Calls Try.prog 77 #[.slice A l.length c, .int .i64 id] w fun e w' =>
      (∃ p : Nat, p ≤ l.length ∧ e = .returned (.tuple #[.int .i64 p, .bool (l.any fun k => k.id == id)]) ∧ (∀ (j : Nat) (hj : j < l.length), j < p → l[j].id < id) ∧ (∀ (j : Nat) (hj : j < l.length), p ≤ j → id ≤ l[j].id)) ∧ Below w.heap.size w w' := by
  have hB := fun W hW => bsearch_any A c l id W hW hl hlt hid h2
  generalize (l.any fun k => k.id == id) = z at *
  go_enter Try.func77, Try.ntmps77
  go_wp2_with (go_at_call 128; (with_reducible refine (hB _ hr).mono ?_); rintro e w' ⟨⟨p, hp, rfl, hlo, hhi⟩, hb⟩; have HLO := Lib.hid hlo; have HHI := Lib.hid hhi; clear hlo hhi)
  go_ret2
  exact ⟨⟨p, hp, rfl, HLO.out, HHI.out⟩, hb⟩

theorem ring_len {l : List Ky} (h : ringB l = true) : l.length ≤ 100 := by
  have hlt := ringGo_lt l (-1) h
  have hm := ringGo_mem l (-1) h
  have key : ∀ (j : Nat) (hj : j < l.length), (j : Int) ≤ l[j].id := by
    intro j
    induction j with
    | zero => intro hj; have := rightB_id (hm _ (List.getElem_mem hj)).1; omega
    | succ j ih =>
      intro hj
      have h1 := ih (by omega)
      have h2 := hlt j (j + 1) hj (by omega)
      omega
  by_cases h0 : l.length = 0
  · omega
  · have h1 := key (l.length - 1) (by omega)
    have h2 := rightB_id (hm _ (List.getElem_mem (show l.length - 1 < l.length by omega))).1
    omega
/-- What a ring gives for a number: the key, or an error. -/
def findE (l : List Ky) (id : Int) : Option Ky × Int :=
  if ringB l = false then (none, 1) else if 0 ≤ id ∧ id < 100 then match l.find? (fun k => k.id == id) with
    | some k => (some k, 0)
    | none => (none, 10)
  else (none, 10)
def keyV (r : Option Ky) (B : Option Addr) (c : Nat) : Value := match r with
  | some k => .agg #[.int .i64 k.id, .slice B k.sec.length c, .int .i64 k.fr, .int .i64 k.til]
  | none => .agg #[.int .i64 0, .slice none 0 0, .int .i64 0, .int .i64 0]
def FindRet (l : List Ky) (id : Int) (w0 w : World) (e : Ending) (w' : World) : Prop :=
  (∃ (B : Option Addr) (c : Nat), e = .returned (.tuple #[keyV (findE l id).1 B c, .int .i64 (findE l id).2]) ∧ ∀ k, (findE l id).1 = some k → k.sec.length ≤ c ∧ c ≤ 9223372036854775807 ∧ RdI w0 .u8 B k.sec ∧ (∀ x ∈ k.sec, 0 ≤ x ∧ x < 256) ∧ rightB k = true ∧ k.id = id) ∧ Below w.heap.size w w'
theorem find_at {l : List Ky} {id : Int} {p : Nat} (hp : p < l.length) (h1 : ∀ (j : Nat) (hj : j < l.length), j < p → l[j].id < id) (e : l[p].id = id) : l.find? (fun k => k.id == id) = some l[p] := by
  rw [List.find?_eq_some_iff_getElem]
  refine ⟨by simp [e], p, hp, rfl, ?_⟩
  intro j hj
  have := h1 j (by omega) hj
  simp; omega
theorem any_find {l : List Ky} {id : Int} (h : (l.any fun k => k.id == id) = false) : l.find? (fun k => k.id == id) = none := by
  rw [List.find?_eq_none]
  intro k hk
  have := List.any_eq_false.1 h k hk
  simpa using this
theorem any_pos {l : List Ky} {id : Int} {p : Nat} (h : (l.any fun k => k.id == id) = true) (h1 : ∀ (j : Nat) (hj : j < l.length), j < p → l[j].id < id) (h2 : ∀ (j : Nat) (hj : j < l.length), p ≤ j → id ≤ l[j].id) (hlt : ∀ (a b : Nat) (hb : b < l.length) (ha : a < b), (l[a]'(by omega)).id < l[b].id) : ∃ hp : p < l.length, l[p].id = id := by
  obtain ⟨k, hk, he⟩ := List.any_eq_true.1 h
  obtain ⟨j, hj, rfl⟩ := List.getElem_of_mem hk
  simp only [beq_iff_eq] at he
  have hpj : p ≤ j := by
    rcases Nat.lt_or_ge j p with h | h
    · have := h1 j hj h; omega
    · exact h
  have hp : p < l.length := by omega
  refine ⟨hp, ?_⟩
  have g := h2 p hp (Nat.le_refl _)
  by_cases e : p = j
  · subst e; exact he
  · have := hlt p j hj (by omega); omega

theorem keySize (a b c : Int) (v u : Value) : (#[.int .i64 0, u, .int .i64 0, .int .i64 0] : Array Value).size = (#[.int .i64 a, v, .int .i64 b, .int .i64 c] : Array Value).size := rfl
theorem keyOne (a b c : Int) (B : Option Addr) (m n : Nat) : (#[.int .i64 a, .slice B m n, .int .i64 b, .int .i64 c] : Array Value).all (·.oneCell') = true := by simp [Value.oneCell']
theorem infoK : (Try.prog.info? 26).map (·.size) = some 4 := by kernel_rfl
theorem results_keyrow {P : Program} {fn : Func} {t u : Tmp} {T ty : TypeId} (h : fn.results = #[.cell t T, .tmp u]) {d : TypeDesc} (hu : P.underlying T = some d) (hd : (match d with | .struct _ | .array _ _ => true | _ => false) = true)
    {tmps : Array Value} {g : Nat} {v : Value} {cs : Array Value} {fr : Nat × Nat} (hp : tmps.getD t undef = .pointer (some ⟨g, 0, none⟩)) (hv : tmps.getD u undef = v) {w : World} (hg : w.heap[g]? = some (.cells cs ty fr)) (hi : (P.info? T).map (·.size) = some cs.size) :
    (results fn tmps).run P w = .ok (.tuple #[.agg cs, v]) w := by
  have hl := run_loadVar_row (P := P) w g ty T cs fr d hg hu hd hi
  simp only [results, h, Array.mapM_eq_mapM_toList, List.mapM_cons, List.mapM_nil]
  simp [Sem.run_bind, hp, hv, asAddr, hl, Result.andThen]
theorem findOut {l : List Ky} {id : Int} {w0 w w' : World} {tmps : Array Value} (hp : tmps.getD 4 undef = .pointer (some ⟨w.heap.size, 0, none⟩)) (hv : tmps.getD 5 undef = .int .i64 (findE l id).2) (hn : (findE l id).1 = none)
    (hF : w'.heap[w.heap.size]? = some (.cells #[.int .i64 0, .slice none 0 0, .int .i64 0, .int .i64 0] 26 (0, 0))) (hb : Below w.heap.size w w') :
    ∃ u, (results Try.f49 tmps).run Try.prog (w'.setRow w.heap.size #[.int .i64 0, .slice none 0 0, .int .i64 0, .int .i64 0]) = .ok u (w'.setRow w.heap.size #[.int .i64 0, .slice none 0 0, .int .i64 0, .int .i64 0]) ∧ FindRet l id w0 w (.returned u) (w'.setRow w.heap.size #[.int .i64 0, .slice none 0 0, .int .i64 0, .int .i64 0]) :=
  ⟨_, results_keyrow rfl Try.underlying26 rfl hp hv (setRow_heap _ _ _ _ _ _ hF) infoK, ⟨none, 0, by rw [hn] <;> rfl, fun k hk => by rw [hn] at hk; cases hk⟩, setRow_below hb (Nat.le_refl _)⟩

theorem findPost {l : List Ky} {id : Int} {w0 w w' : World} {a : Act} (hd : a.defers = []) (hp : a.tmps.getD 4 undef = .pointer (some ⟨w.heap.size, 0, none⟩)) (hv : a.tmps.getD 5 undef = .int .i64 (findE l id).2) (hn : (findE l id).1 = none)
    (hF : w'.heap[w.heap.size]? = some (.cells #[.int .i64 0, .slice none 0 0, .int .i64 0, .int .i64 0] 26 (0, 0))) (hb : Below w.heap.size w w') : bodyPost Try.prog Try.f49 (FindRet l id w0 w) .ret a (w'.setRow w.heap.size #[.int .i64 0, .slice none 0 0, .int .i64 0, .int .i64 0]) := by
  obtain ⟨u, hu, hR⟩ := findOut hp hv hn hF hb
  exact bodyPost_ret hu hd hR
theorem findPost2 {l : List Ky} {id : Int} {w0 w w' : World} {a : Act} {ky : Ky} {B : Option Addr} {c n : Nat} (hd : a.defers = []) (hp : a.tmps.getD 4 undef = .pointer (some ⟨w.heap.size, 0, none⟩)) (hv : a.tmps.getD 5 undef = .int .i64 0) (hE : findE l id = (some ky, 0)) (hn : ky.sec.length = n)
    (hF : w'.heap[w.heap.size]? = some (.cells #[.int .i64 0, .slice none 0 0, .int .i64 0, .int .i64 0] 26 (0, 0))) (hb : Below w.heap.size w w') (hc : n ≤ c) (hc9 : c ≤ 9223372036854775807) (hr : RdI w0 .u8 B ky.sec) (hby : ∀ x ∈ ky.sec, 0 ≤ x ∧ x < 256) (hrt : rightB ky = true) (hid : ky.id = id) :
    bodyPost Try.prog Try.f49 (FindRet l id w0 w) .ret a (w'.setRow w.heap.size #[.int .i64 ky.id, .slice B n c, .int .i64 ky.fr, .int .i64 ky.til]) := by
  subst hn
  have hb2 : Below w.heap.size w (w'.setRow w.heap.size #[.int .i64 ky.id, .slice B ky.sec.length c, .int .i64 ky.fr, .int .i64 ky.til]) := setRow_below hb (Nat.le_refl _)
  refine bodyPost_ret (results_keyrow rfl Try.underlying26 rfl hp hv (setRow_heap _ _ _ _ _ _ hF) infoK) hd ⟨⟨B, c, by rw [hE] <;> rfl, fun k hk => ?_⟩, hb2⟩
  rw [hE] at hk
  obtain rfl := Option.some.inj hk
  exact ⟨hc, hc9, hr, hby, hrt, hid⟩

set_option maxHeartbeats 4000000 in
theorem ringFind_any (A : Option Addr) (c : Nat) (l : List Ky) (id : Int) (w0 w : World) (hr : RdK w0 A l) (hb9 : Below w0.heap.size w0 w) (hl : l.length ≤ 9223372036854775807) :
    Calls Try.prog 49 #[.slice A l.length c, .int .i64 id] w (FindRet l id w0 w) := by
  have hI := fun W hW => ringIs_any A c l W hW hl
  have hr0 := (hr.below hb9 (Nat.le_refl _)).below (bel1 w (.cells #[.int .i64 0, .slice none 0 0, .int .i64 0, .int .i64 0] 26)) (Nat.le_refl _)
  have hF0 := heap_alloc_new w (.cells #[.int .i64 0, .slice none 0 0, .int .i64 0, .int .i64 0] 26)
  have hs0 : w.heap.size < (w.alloc (.cells #[.int .i64 0, .slice none 0 0, .int .i64 0, .int .i64 0] 26)).heap.size := by simp
  have hb0 := bel1 w (.cells #[.int .i64 0, .slice none 0 0, .int .i64 0, .int .i64 0] 26)
  cases hz : ringB l with
  | false =>
    have e := (show findE l id = (none, 1) by unfold findE; rw [if_pos hz])
    have E1 := Lib.hid (congrArg Prod.fst e)
    have E2 := Lib.hid (congrArg Prod.snd e)
    rw [hz] at hI
    clear e
    go_enter Try.func49, Try.ntmps49
    go_wp2_with (first | (go_at_call 46; (with_reducible refine (hI _ hr0).mono ?_); rintro e w' ⟨rfl, hb⟩; have hF := (hb.block w.heap.size hs0).trans hF0; have hbx := hb0.trans (hb.mono (Nat.le_of_lt hs0))) | (refine wpList_store_row rfl 26 _ _ rfl w.heap.size #[.int .i64 0, .slice none 0 0, .int .i64 0, .int .i64 0] rfl rfl 26 _ hF ?_ ?_ ?_ ?_; (focus (exact infoK)); (focus (exact keySize _ _ _ _ _)); (focus (exact keyOne _ _ _ _ _ _))))
    exact findPost rfl rfl (by rw [E2.out] <;> rfl) E1.out hF hbx
  | true =>
    have hlen := ring_len hz
    have hlt := ringGo_lt l (-1) hz
    have hm := ringGo_mem l (-1) hz
    have hid : ∀ k ∈ l, 0 ≤ k.id ∧ k.id ≤ 99 := fun k hk => rightB_id (hm k hk).1
    rw [hz] at hI
    have HZ := Lib.hid hz
    by_cases h0 : 0 ≤ id
    rotate_left
    · have e := (show findE l id = (none, 10) by unfold findE; rw [if_neg (by simp [hz]), if_neg (by omega)])
      have E1 := Lib.hid (congrArg Prod.fst e)
      have E2 := Lib.hid (congrArg Prod.snd e)
      clear e hlt hm hid
      go_enter Try.func49, Try.ntmps49
      go_wp2_with (first | (go_at_call 46; (with_reducible refine (hI _ hr0).mono ?_); rintro e w' ⟨rfl, hb⟩; have hF := (hb.block w.heap.size hs0).trans hF0; have hbx := hb0.trans (hb.mono (Nat.le_of_lt hs0))) | (refine wpList_store_row rfl 26 _ _ rfl w.heap.size #[.int .i64 0, .slice none 0 0, .int .i64 0, .int .i64 0] rfl rfl 26 _ hF ?_ ?_ ?_ ?_; (focus (exact infoK)); (focus (exact keySize _ _ _ _ _)); (focus (exact keyOne _ _ _ _ _ _))))
      exact findPost rfl rfl (by rw [E2.out] <;> rfl) E1.out hF hbx
    by_cases h1 : id < 100
    rotate_left
    · have e := (show findE l id = (none, 10) by unfold findE; rw [if_neg (by simp [hz]), if_neg (by omega)])
      have E1 := Lib.hid (congrArg Prod.fst e)
      have E2 := Lib.hid (congrArg Prod.snd e)
      clear e hlt hm hid
      go_enter Try.func49, Try.ntmps49
      go_wp2_with (first | (go_at_call 46; (with_reducible refine (hI _ hr0).mono ?_); rintro e w' ⟨rfl, hb⟩; have hF := (hb.block w.heap.size hs0).trans hF0; have hbx := hb0.trans (hb.mono (Nat.le_of_lt hs0))) | (refine wpList_store_row rfl 26 _ _ rfl w.heap.size #[.int .i64 0, .slice none 0 0, .int .i64 0, .int .i64 0] rfl rfl 26 _ hF ?_ ?_ ?_ ?_; (focus (exact infoK)); (focus (exact keySize _ _ _ _ _)); (focus (exact keyOne _ _ _ _ _ _))))
      exact findPost rfl rfl (by rw [E2.out] <;> rfl) E1.out hF hbx
    have hPl := fun W hW => place_any A c l id W hW hlen hlt hid ⟨h0, by omega⟩
    have HLT := Lib.hid hlt
    have HM := Lib.hid hm
    clear hlt hm hid
    cases ha : (l.any fun k => k.id == id) with
    | false =>
      have e := (show findE l id = (none, 10) by unfold findE; rw [if_neg (by simp [hz]), if_pos ⟨h0, h1⟩, any_find ha])
      have E1 := Lib.hid (congrArg Prod.fst e)
      have E2 := Lib.hid (congrArg Prod.snd e)
      rw [ha] at hPl
      clear e ha
      go_enter Try.func49, Try.ntmps49
      go_wp2_with (first | (go_at_call 46; (with_reducible refine (hI _ hr0).mono ?_); rintro e w1 ⟨rfl, hb⟩; have hF1 := (hb.block w.heap.size hs0).trans hF0; have hb1 := hb0.trans (hb.mono (Nat.le_of_lt hs0)); have hr1 := hr0.below hb (Nat.le_refl _)) | (go_at_call 77; (with_reducible refine (hPl _ hr1).mono ?_); rintro e w' ⟨⟨p, hp, rfl, _, _⟩, hb2⟩; have hF := (hb2.block w.heap.size (Array.getElem?_eq_some_iff.1 hF1).1).trans hF1; have hbx := hb1.trans (hb2.mono hb1.size)) | (refine wpList_store_row rfl 26 _ _ rfl w.heap.size #[.int .i64 0, .slice none 0 0, .int .i64 0, .int .i64 0] rfl rfl 26 _ hF ?_ ?_ ?_ ?_; (focus (exact infoK)); (focus (exact keySize _ _ _ _ _)); (focus (exact keyOne _ _ _ _ _ _))))
      exact findPost rfl rfl (by rw [E2.out] <;> rfl) E1.out hF hbx
    | true =>
      have HA := Lib.hid ha
      rw [ha] at hPl
      clear ha
      go_enter Try.func49, Try.ntmps49
      go_wp2_with (first | (go_at_call 46; (with_reducible refine (hI _ hr0).mono ?_); rintro e w1 ⟨rfl, hb⟩; have hF1 := (hb.block w.heap.size hs0).trans hF0; have hb1 := hb0.trans (hb.mono (Nat.le_of_lt hs0)); have hr1 := hr0.below hb (Nat.le_refl _)) | (go_at_call 77; (with_reducible refine (hPl _ hr1).mono ?_); rintro e w' ⟨⟨p, hp, rfl, hlo, hhi⟩, hb2⟩; have hF := (hb2.block w.heap.size (Array.getElem?_eq_some_iff.1 hF1).1).trans hF1; have hbx := hb1.trans (hb2.mono hb1.size); obtain ⟨hpl, hpe⟩ := any_pos HA.out hlo hhi HLT.out; have e := (show findE l id = (some l[p], 0) by unfold findE; rw [if_neg (by simp [HZ.out]), if_pos ⟨h0, h1⟩, find_at hpl hlo hpe]); have E0 := Lib.hid e; have HPE := Lib.hid hpe; have HRT := Lib.hid (HM.out l[p] (List.getElem_mem hpl)).1; clear e hlo hhi hpe; rcases hr with hh0 | ⟨ad, rfl, _, hka⟩; (focus (simp [hh0] at hpl)); obtain ⟨B, c2, c0, c1, c22, c3, hcl, hcc, hsr, hsb⟩ := hka p hpl; generalize hky : l[p] = ky at *; clear hka hky; have k0 : (0 : Int) ≤ (p : Int) := (by omega); have k1 : (p : Int) < (l.length : Int) := (by omega); obtain ⟨n2, hn2⟩ : ∃ n2, ky.sec.length = n2 := ⟨_, rfl⟩; rw [hn2] at c1 hcl; have c0' := keep_cell hbx (keep_cell hb9 c0); have c1' := keep_cell hbx (keep_cell hb9 c1); have c22' := keep_cell hbx (keep_cell hb9 c22); have c3' := keep_cell hbx (keep_cell hb9 c3); clear c0 c1 c22 c3) | (refine wpList_store_row rfl 26 _ _ rfl w.heap.size #[.int .i64 ky.id, .slice B n2 c2, .int .i64 ky.fr, .int .i64 ky.til] rfl rfl 26 _ hF ?_ ?_ ?_ ?_; (focus (exact infoK)); (focus (exact keySize _ _ _ _ _)); (focus (exact keyOne _ _ _ _ _ _))))
      exact findPost2 rfl rfl rfl E0.out hn2 hF hbx hcl hcc hsr hsb HRT.out HPE.out
end Go.Proofs.Ytiogogbkgekkdaa

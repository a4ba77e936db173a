/- Plain words on a ledger: what a right journey is, and what a list of entries by rising serials is behind an entry more, or another one. No condition. -/
import Derived.Test.YtpmfmkkifkpdcaaTick
import Derived.Test.YtpmfmkkifkpdcaaLaySmall
namespace Go.Proofs.Ytpmfmkkifkpdcaa
open Go.RowKit
set_option linter.unusedVariables false
set_option maxRecDepth 100000
set_option linter.unusedSimpArgs false

/-- The zone of a station. -/
def zoneN (s : Int) : Int := 1 + (if s < 20 then 20 - s else s - 20) / 4
def betB (a b s : Int) : Bool := decide (min a b ≤ s) && decide (s ≤ max a b)
def covB (a1 a2 a3 s : Int) : Bool := if a1 = 3 then wB (zoneN s) a2 a3 else betB a2 a3 s
def jouB (a0 a1 a2 a3 a4 a5 a6 a7 a8 a9 a10 l i : Int) : Bool := tkB a0 a1 a2 a3 a4 a5 a6 a7 a8 a9 a10 && (suB a9 l i && (if i = 0 then true else covB a1 a2 a3 (i - 1) && (a1 == 3 || decide (l < a9))))

structure En where
  (a0 a1 a2 a3 a4 a5 a6 a7 a8 a9 a10 l i : Int)
  bk : Bool
/-- The cells of an entry. -/
def En.row (e : En) : List Value := [.int .i64 e.a0, .int .i64 e.a1, .int .i64 e.a2, .int .i64 e.a3, .int .i64 e.a4, .int .i64 e.a5, .int .i64 e.a6, .int .i64 e.a7, .int .i64 e.a8, .int .i64 e.a9, .int .i64 e.a10, .int .i64 e.l, .int .i64 e.i, .bool e.bk]
def En.ok (e : En) : Bool := jouB e.a0 e.a1 e.a2 e.a3 e.a4 e.a5 e.a6 e.a7 e.a8 e.a9 e.a10 e.l e.i
def zE : En := ⟨0, 0, 0, 0, 0, 0, 0, 0, 0, 0, 0, 0, 0, false⟩
theorem En.row_len (e : En) : e.row.length = 14 := rfl
theorem En.ext {e f : En} (h : e.row = f.row) : e = f := by
  cases e; cases f
  simp only [En.row, List.cons.injEq, Value.int.injEq, Value.bool.injEq, true_and, and_true] at h
  obtain ⟨h0, h1, h2, h3, h4, h5, h6, h7, h8, h9, h10, h11, h12, h13⟩ := h
  subst h0 h1 h2 h3 h4 h5 h6 h7 h8 h9 h10 h11 h12 h13
  rfl
theorem En.ok_serial {e : En} (h : e.ok = true) : 1 ≤ e.a0 ∧ e.a0 ≤ 1099511627776 := by
  unfold En.ok jouB tkB at h
  simp only [Bool.and_eq_true, and_assoc] at h
  exact wB_iff h.1

/-- By rising serials. -/
def Srt (S : List En) : Prop := S.Pairwise fun x y => x.a0 < y.a0
def fnd (S : List En) (n : Int) : Option En := S.find? fun x => x.a0 == n
def ins (e : En) : List En → List En
  | [] => [e]
  | x :: r => if e.a0 < x.a0 then e :: x :: r else x :: ins e r
def rpl (e : En) (S : List En) : List En := S.map fun x => if x.a0 = e.a0 then e else x
def addR (room : Int) (S : List En) (e : En) : List En × Int :=
  if e.ok = false then (S, 1) else if (fnd S e.a0).isSome = true then (S, 10) else if room ≤ (S.length : Int) then (S, 19) else (ins e S, 0)
def setR (S : List En) (e : En) : List En × Int :=
  if e.ok = false then (S, 1) else if (fnd S e.a0).isSome = true then (rpl e S, 0) else (S, 20)
def gotR (S : List En) (n : Int) : En × Int := match fnd S n with
  | some e => (e, 0)
  | none => (zE, 20)

theorem ins_perm (e : En) : ∀ S : List En, (ins e S).Perm (e :: S)
  | [] => List.Perm.refl _
  | x :: r => by
    unfold ins
    split
    · exact List.Perm.refl _
    · exact ((ins_perm e r).cons x).trans (List.Perm.swap e x r)
theorem ins_len (e : En) (S : List En) : (ins e S).length = S.length + 1 := (ins_perm e S).length_eq
theorem ins_mem {e x : En} {S : List En} : x ∈ ins e S ↔ x = e ∨ x ∈ S := by rw [(ins_perm e S).mem_iff]; simp
theorem fnd_none {S : List En} {n : Int} (h : (fnd S n).isSome = false) : ∀ x ∈ S, x.a0 ≠ n := by
  intro x hx e
  have : fnd S n = none := by cases hh : fnd S n <;> simp_all
  have := List.find?_eq_none.1 this x hx
  simp [e] at this
theorem fnd_some {S : List En} {n : Int} {e : En} (h : fnd S n = some e) : e ∈ S ∧ e.a0 = n := ⟨List.mem_of_find?_eq_some h, by simpa using List.find?_some h⟩
theorem srt_ins {e : En} : ∀ {S : List En}, Srt S → (∀ x ∈ S, x.a0 ≠ e.a0) → Srt (ins e S)
  | [], _, _ => by simp [ins, Srt]
  | x :: r, h, hn => by
    obtain ⟨h1, h2⟩ := List.pairwise_cons.1 h
    unfold ins
    split
    · rename_i hlt
      exact List.pairwise_cons.2 ⟨fun y hy => by
        rcases List.mem_cons.1 hy with rfl | hy
        · exact hlt
        · exact Int.lt_trans hlt (h1 y hy), h⟩
    · rename_i hlt
      refine List.pairwise_cons.2 ⟨fun y hy => ?_, srt_ins h2 fun y hy => hn y (by simp [hy])⟩
      rcases ins_mem.1 hy with rfl | hy
      · have := hn x (by simp); omega
      · exact h1 y hy
/-- In a list by rising serials an entry is found by its serial. -/
theorem fnd_mem {S : List En} (h : Srt S) {e : En} (he : e ∈ S) : fnd S e.a0 = some e := by
  induction S with
  | nil => cases he
  | cons x r ih =>
    obtain ⟨h1, h2⟩ := List.pairwise_cons.1 h
    unfold fnd
    rcases List.mem_cons.1 he with rfl | he
    · simp
    · have hlt := h1 e he
      rw [List.find?_cons, show (x.a0 == e.a0) = false by simp only [beq_eq_false_iff_ne]; omega]
      exact ih h2 he
theorem fnd_iff {S : List En} (h : Srt S) {n : Int} {e : En} : fnd S n = some e ↔ e ∈ S ∧ e.a0 = n :=
  ⟨fnd_some, fun ⟨h1, h2⟩ => h2 ▸ fnd_mem h h1⟩
theorem fnd_ins {S : List En} {e : En} (h : Srt S) (hn : ∀ x ∈ S, x.a0 ≠ e.a0) (n : Int) : fnd (ins e S) n = if e.a0 = n then some e else fnd S n := by
  have hs := srt_ins h hn
  split
  · rename_i hen
    exact (fnd_iff hs).2 ⟨ins_mem.2 (.inl rfl), hen⟩
  · rename_i hen
    cases hf : fnd S n with
    | some x => exact (fnd_iff hs).2 ⟨ins_mem.2 (.inr (fnd_some hf).1), (fnd_some hf).2⟩
    | none =>
      cases hg : fnd (ins e S) n with
      | none => rfl
      | some x =>
        obtain ⟨h1, h2⟩ := fnd_some hg
        rcases ins_mem.1 h1 with rfl | h1
        · exact absurd h2 hen
        · exact absurd h2 (fnd_none (by rw [hf]; rfl) x h1)
theorem rpl_len (e : En) (S : List En) : (rpl e S).length = S.length := by simp [rpl]
theorem rpl_serials (e : En) (S : List En) : (rpl e S).map (·.a0) = S.map (·.a0) := by
  simp only [rpl, List.map_map]
  refine List.map_congr_left fun x _ => ?_
  simp only [Function.comp]
  split <;> simp_all
theorem srt_map {S : List En} : Srt S ↔ (S.map (·.a0)).Pairwise (· < ·) := by simp [Srt, List.pairwise_map]
theorem srt_rpl {S : List En} (h : Srt S) (e : En) : Srt (rpl e S) := by rw [srt_map, rpl_serials]; exact srt_map.1 h
theorem fnd_rpl (e : En) (n : Int) : ∀ S : List En, fnd (rpl e S) n = if e.a0 = n then (fnd S n).map fun _ => e else fnd S n
  | [] => by simp [fnd, rpl]
  | x :: r => by
    have ih := fnd_rpl e n r
    unfold fnd rpl at ih ⊢
    rw [List.map_cons, List.find?_cons, List.find?_cons, ih]
    by_cases hx : x.a0 = e.a0
    · rw [if_pos hx]
      by_cases hn : e.a0 = n
      · simp [hn, hx]
      · have hn' : (e.a0 == n) = false := by simpa using hn
        simp [hn, hn', hx]
    · rw [if_neg hx]
      by_cases hn : e.a0 = n
      · have hxn : (x.a0 == n) = false := by simp only [beq_eq_false_iff_ne]; omega
        simp [hn, hxn]
      · simp [hn]
theorem srt_unique : ∀ {S T : List En}, Srt S → Srt T → (∀ x, x ∈ S ↔ x ∈ T) → S = T
  | [], [], _, _, _ => rfl
  | [], y :: t, _, _, h => absurd ((h y).2 (by simp)) (by simp)
  | x :: s, [], _, _, h => absurd ((h x).1 (by simp)) (by simp)
  | x :: s, y :: t, h1, h2, h => by
    obtain ⟨a1, a2⟩ := List.pairwise_cons.1 h1
    obtain ⟨b1, b2⟩ := List.pairwise_cons.1 h2
    have e : x = y := by
      rcases List.mem_cons.1 ((h x).1 (by simp)) with e | hx
      · exact e
      · rcases List.mem_cons.1 ((h y).2 (by simp)) with e | hy
        · exact e.symm
        · have u1 := b1 x hx; have u2 := a1 y hy; omega
    subst e
    refine congrArg (x :: ·) (srt_unique a2 b2 fun z => ⟨fun hz => ?_, fun hz => ?_⟩)
    · rcases List.mem_cons.1 ((h z).1 (by simp [hz])) with rfl | hz'
      · have := a1 z hz; omega
      · exact hz'
    · rcases List.mem_cons.1 ((h z).2 (by simp [hz])) with rfl | hz'
      · have := b1 z hz; omega
      · exact hz'
/-- What holds of every ledger: rising serials, all right, no more than there is room for. -/
def LedOk (room : Int) (S : List En) : Prop := Srt S ∧ (∀ e ∈ S, e.ok = true) ∧ (S.length : Int) ≤ room
theorem addR_ok {room : Int} {S : List En} (h : LedOk room S) (e : En) : LedOk room (addR room S e).1 := by
  unfold addR
  split
  · exact h
  · rename_i ho
    split
    · exact h
    · rename_i hf
      split
      · exact h
      · rename_i hr
        refine ⟨srt_ins h.1 (fnd_none (by simpa using hf)), fun x hx => ?_, by simp only [ins_len]; omega⟩
        rcases ins_mem.1 hx with rfl | hx
        · simpa using ho
        · exact h.2.1 x hx
theorem setR_ok {room : Int} {S : List En} (h : LedOk room S) (e : En) : LedOk room (setR S e).1 := by
  unfold setR
  split
  · exact h
  · rename_i ho
    split
    · refine ⟨srt_rpl h.1 e, fun x hx => ?_, by rw [rpl_len]; exact h.2.2⟩
      obtain ⟨y, hy, rfl⟩ := List.mem_map.1 hx
      split
      · simpa using ho
      · exact h.2.1 y hy
    · exact h
end Go.Proofs.Ytpmfmkkifkpdcaa

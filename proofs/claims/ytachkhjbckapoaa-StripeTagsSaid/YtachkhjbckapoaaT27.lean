/- Layer 14: reading a track either way. No condition. -/
import Derived.Test.YtachkhjbckapoaaT26
namespace Go.Proofs.Ytachkhjbckapoaa
open Go.RowKit
set_option linter.unusedVariables false
set_option maxRecDepth 100000
set_option linter.unusedSimpArgs false

def SwRet (r : List Int × Bool × Int) (w : World) (e : Ending) (w' : World) : Prop := ∃ v, e = .returned (.tuple #[v, .bool r.2.1, .int .i64 r.2.2]) ∧ w'.ownsRow w.heap.size 5 1 v r.1.length (r.1.map (.int .u8)) ∧ Below w.heap.size w w'
theorem read1_any (g : Nat) (A : Option Addr) (c : Nat) (l : List Int) (w : World) (hg : Boxed w g 30 (.slice A l.length c)) (hr : RdI w .u8 A l) (hb : ∀ x ∈ l, 0 ≤ x ∧ x < 256) :
    Calls Try.prog 64 #[.pointer (some ⟨g, 0, none⟩)] w (ByteRetE (trackGet l) w) := by
  have hG := fun W h => trackGet_any A c l W h hb
  have hc := hg.cell
  go_enter Try.func64, Try.ntmps64
  go_wp2_with (go_at_call 65; (with_reducible refine (hG _ hr).mono ?_); rintro e w6 ⟨v, rfl, ho6, hb6⟩)
  go_ret2
  exact ⟨v, rfl, ho6, hb6⟩
theorem trackGet_len (A : Option Addr) (c k : Nat) (l : List Int) (w : World) (hk : l.length = k) (hr : RdI w .u8 A l) (hb : ∀ x ∈ l, 0 ≤ x ∧ x < 256) :
    Calls Try.prog 65 #[.slice A k c] w (ByteRetE (trackGet l) w) := by
  subst hk; exact trackGet_any A c l w hr hb
theorem read2_any (g : Nat) (A : Option Addr) (c : Nat) (l : List Int) (w : World) (hg : Boxed w g 30 (.slice A l.length c)) (hr : RdI w .u8 A l) (hl : l.length ≤ 17592186044416) (hb : ∀ x ∈ l, 0 ≤ x ∧ x < 256) :
    Calls Try.prog 66 #[.pointer (some ⟨g, 0, none⟩)] w (ByteRetE (trackGet (turnB l)) w) := by
  have hT := fun W h => turn_any A c l W h hl hb
  have hG := fun A' c' W h => trackGet_len A' c' l.length (turnB l) W (turn_len l) h (turn_byte l)
  have hc := hg.cell
  have HL := Lib.hid (turn_len l)
  generalize turnB l = t at *
  generalize trackGet t = r at *
  go_enter Try.func66, Try.ntmps66
  go_wp2_with (first | (go_at_call 25; (with_reducible refine (hT _ hr).mono ?_); rintro e w5 ⟨⟨g5, rfl, ho5⟩, hb5⟩; have hrd := rd_own_len HL.out ho5) | (go_at_call 65; (with_reducible refine (hG _ _ _ hrd).mono ?_); rintro e w6 ⟨v, rfl, ho6, hb6⟩))
  go_ret2
  exact ⟨v, rfl, own_base ho6 hb5.size, bT hb5 hb6⟩
set_option maxHeartbeats 8000000 in
theorem swipeRead_any (A : Option Addr) (c : Nat) (l : List Int) (w : World) (hr : RdI w .u8 A l) (hl : l.length ≤ 17592186044416) (hb : ∀ x ∈ l, 0 ≤ x ∧ x < 256) :
    Calls Try.prog 24 #[.slice A l.length c] w (SwRet (swipeRd l) w) := by
  have hmf : ∀ (fn : Fn) (first cap : Array Value) (w : World), (Instr.makeFunc fn first cap).run Try.prog w = .ok (.func fn first cap) w := fun _ _ _ _ => rfl
  have hE : swipeRd l = if (trackGet l).2 = 0 then ((trackGet l).1, false, 0) else if (trackGet (turnB l)).2 = 0 then ((trackGet (turnB l)).1, true, 0) else ([], false, (trackGet l).2) := rfl
  have h1 := fun g W hg h => read1_any g A c l W hg h hb
  have h2 := fun g W hg h => read2_any g A c l W hg h hl hb
  have hb1 := bel1 w (.cells #[.slice A l.length c] 30)
  have hB1 := Boxed.new w 30 (.slice A l.length c)
  generalize trackGet (turnB l) = r2 at *
  generalize trackGet l = r1 at *
  obtain ⟨d1, e1⟩ := r1
  obtain ⟨d2, e2⟩ := r2
  simp only at hE
  have HE := Lib.hid hE
  clear hE hb
  go_enter Try.func24, Try.ntmps24
  have hrow : ((w.alloc (.cells #[.slice A l.length c] 30)).alloc (.cells #[.func (.func 64) #[] #[.pointer (some ⟨w.heap.size, 0, none⟩)], .func (.func 66) #[] #[.pointer (some ⟨w.heap.size, 0, none⟩)]] 75)).heap[w.heap.size + 1]? = some (.cells #[.func (.func 64) #[] #[.pointer (some ⟨w.heap.size, 0, none⟩)], .func (.func 66) #[] #[.pointer (some ⟨w.heap.size, 0, none⟩)]] 75 (0, 0)) := by have h := heap_alloc_new (w.alloc (.cells #[.slice A l.length c] 30)) (.cells #[.func (.func 64) #[] #[.pointer (some ⟨w.heap.size, 0, none⟩)], .func (.func 66) #[] #[.pointer (some ⟨w.heap.size, 0, none⟩)]] 75); simpa using h
  have hB2 := hB1.alloc (.cells #[.func (.func 64) #[] #[.pointer (some ⟨w.heap.size, 0, none⟩)], .func (.func 66) #[] #[.pointer (some ⟨w.heap.size, 0, none⟩)]] 75)
  have hb2 := bA hb1 (.cells #[.func (.func 64) #[] #[.pointer (some ⟨w.heap.size, 0, none⟩)], .func (.func 66) #[] #[.pointer (some ⟨w.heap.size, 0, none⟩)]] 75)
  clear hB1 hb1
  go_wp2
  go_loopw [6, 7, 8, 9, 10, 16] (fun f _ _ _ _ i wr => (i = .int .i64 0 ∧ f = .int .i64 0 ∨ Hid (e1 ≠ 0) ∧ i = .int .i64 1 ∧ f = .int .i64 e1 ∨ Hid (e1 ≠ 0) ∧ Hid (e2 ≠ 0) ∧ i = .int .i64 2 ∧ f = .int .i64 e1) ∧ Boxed wr w.heap.size 30 (.slice A l.length c) ∧ wr.heap[w.heap.size + 1]? = some (.cells #[.func (.func 64) #[] #[.pointer (some ⟨w.heap.size, 0, none⟩)], .func (.func 66) #[] #[.pointer (some ⟨w.heap.size, 0, none⟩)]] 75 (0, 0)) ∧ Below w.heap.size w wr) (fun _ _ _ _ _ i _ => 2 - (intOf i).toNat)
  case atStart => exact ⟨.inl ⟨rfl, rfl⟩, hB2, hrow, hb2⟩
  case round =>
    obtain ⟨hk, hB, hro, hbl⟩ := hrel
    have hrr := hr.below hbl
    have c0 := cell_of_row _ _ 0 _ _ _ hro
    have c1 := cell_of_row _ _ 1 _ _ _ hro
    simp only [List.getElem?_toArray, List.getElem?_cons_zero, List.getElem?_cons_succ] at c0 c1
    have hgl := (Array.getElem?_eq_some_iff.1 hro).1
    have HRO := Lib.hid hro
    clear hro hB2 hrow hb2
    rcases hk with ⟨rfl, rfl⟩ | ⟨hn1, rfl, rfl⟩ | ⟨hn1, hn2, rfl, rfl⟩
    · by_cases he : e1 = 0
      · have hd : (e1 == 0) = true := by simpa using he
        have HX := Lib.hid (HE.out.trans (if_pos he))
        clear he
        go_wp2_with (go_at_call 64; (with_reducible refine (h1 _ _ hB hrr).mono ?_); rintro e w6 ⟨v, rfl, ho6, hb6⟩)
        go_ret3
        exact ⟨v, by rw [HX.out] <;> rfl, by rw [HX.out]; exact own_base ho6 hbl.size, bT hbl hb6⟩
      · have hd : (e1 == 0) = false := by simpa using he
        have HN := Lib.hid he
        clear he
        go_wp2_with (go_at_call 64; (with_reducible refine (h1 _ _ hB hrr).mono ?_); rintro e w6 ⟨v, rfl, ho6, hb6⟩)
        go_roundw
        case rel => exact ⟨.inr (.inl ⟨HN, rfl, rfl⟩), (hb6.block _ hB.lt).trans hB, (hb6.block _ hgl).trans HRO.out, bT hbl hb6⟩
        case measure => simp [intOf]
    · by_cases he : e2 = 0
      · have hd : (e2 == 0) = true := by simpa using he
        have HX := Lib.hid (HE.out.trans ((if_neg hn1.out).trans (if_pos he)))
        clear he
        go_wp2_with (go_at_call 66; (with_reducible refine (h2 _ _ hB hrr).mono ?_); rintro e w6 ⟨v, rfl, ho6, hb6⟩)
        go_ret3
        exact ⟨v, by rw [HX.out] <;> rfl, by rw [HX.out]; exact own_base ho6 hbl.size, bT hbl hb6⟩
      · have hd : (e2 == 0) = false := by simpa using he
        have HN := Lib.hid he
        clear he
        go_wp2_with (go_at_call 66; (with_reducible refine (h2 _ _ hB hrr).mono ?_); rintro e w6 ⟨v, rfl, ho6, hb6⟩)
        go_roundw
        case rel => exact ⟨.inr (.inr ⟨hn1, HN, rfl, rfl⟩), (hb6.block _ hB.lt).trans hB, (hb6.block _ hgl).trans HRO.out, bT hbl hb6⟩
        case measure => simp [intOf]
    · have HX := Lib.hid (HE.out.trans ((if_neg hn1.out).trans (if_neg hn2.out)))
      go_wp2
      go_ret3
      exact ⟨_, by rw [HX.out] <;> rfl, by rw [HX.out]; exact World.ownsRow_nil _ _ _ _, hbl⟩
end Go.Proofs.Ytachkhjbckapoaa

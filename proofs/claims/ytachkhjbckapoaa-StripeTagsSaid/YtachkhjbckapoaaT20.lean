/- Layer 17: fields, and what tlv.Is tells of them. Layer 17: fields as bytes, what tlv.Put computes. Layer 17: a row of fields of the call's own, and what is appended to it. No condition. -/
import Derived.Test.YtachkhjbckapoaaT19
import Derived.Test.YtachkhjbckapoaaT05
namespace Go.Proofs.Ytachkhjbckapoaa
open Go.RowKit Go.Shelf
set_option linter.unusedVariables false
set_option maxRecDepth 100000
set_option linter.unusedSimpArgs false

/-- A field: its tag, its value. -/
structure Fd where
  tag : Int
  val : List Int
def tlvB : Int → List Fd → Bool
  | _, [] => true
  | last, f :: t => if f.tag ≤ last then false else if 255 < f.tag then false else if 255 < f.val.length then false else tlvB f.tag t
theorem tlvB_cons (last : Int) (f : Fd) (t : List Fd) : tlvB last (f :: t) = if f.tag ≤ last then false else if 255 < f.tag then false else if 255 < f.val.length then false else tlvB f.tag t := rfl
/-- The field at a place of memory. -/
def FdAt (w : World) (p : Addr) (f : Fd) : Prop :=
  ∃ (B : Option Addr) (c : Nat), w.cell? p = some (.int .i64 f.tag) ∧ w.cell? ⟨p.block, p.off + 1, none⟩ = some (.slice B f.val.length c) ∧ f.val.length ≤ c ∧ c ≤ 9223372036854775807 ∧ RdI w .u8 B f.val ∧ ∀ x ∈ f.val, 0 ≤ x ∧ x < 256
/-- The slice at A reads as the fields l. -/
def RdF (w : World) (A : Option Addr) (l : List Fd) : Prop :=
  l = [] ∨ ∃ ad, A = some ad ∧ ad.block < w.heap.size ∧ ∀ j, (h : j < l.length) → FdAt w (ad.add (j * 2)) l[j]
theorem FdAt.below {w w' : World} {p : Addr} {n : Nat} {f : Fd} (h : FdAt w p f) (hb : Below n w w') (hn : w.heap.size ≤ n) : FdAt w' p f := by
  obtain ⟨B, c, h1, h2, h5, h6, h7, h8⟩ := h
  have K : ∀ {a : Addr} {v : Value}, w.cell? a = some v → w'.cell? a = some v := fun hc => (hb.cell (Nat.lt_of_lt_of_le (World.block_lt_of_cell? w _ hc) hn)).trans hc
  exact ⟨B, c, K h1, K h2, h5, h6, h7.keep hb.size (fun b hbn => hb.block b (Nat.lt_of_lt_of_le hbn hn)), h8⟩
theorem RdF.below {w w' : World} {A : Option Addr} {l : List Fd} {n : Nat} (h : RdF w A l) (hb : Below n w w') (hn : w.heap.size ≤ n) : RdF w' A l := by
  rcases h with h | ⟨ad, e, hlt, hk⟩
  · exact .inl h
  · exact .inr ⟨ad, e, Nat.lt_of_lt_of_le hlt hb.size, fun j hj => (hk j hj).below hb hn⟩

set_option maxHeartbeats 4000000 in
theorem tlvIs_any (A : Option Addr) (c : Nat) (l : List Fd) (w : World) (hr : RdF w A l) (hl : l.length ≤ 9223372036854775807) :
    Calls Try.prog 77 #[.slice A l.length c] w fun e w' => e = .returned (.bool (tlvB 0 l)) ∧ Below w.heap.size w w' := by
  go_enter Try.func77, Try.ntmps77
  go_wp2
  go_loopw [3, 5, 8] (fun s _ i wr => ∃ (k : Nat) (la : Int), k ≤ l.length ∧ i = .int .i64 k ∧ s = .int .i64 la ∧ Hid (tlvB la (l.drop k) = tlvB 0 l) ∧ Below w.heap.size w wr) (fun _ _ i _ => l.length - (intOf i).toNat)
  case atStart => exact ⟨0, 0, Nat.zero_le _, rfl, rfl, Lib.hid (by simp), Below.refl _ _⟩
  case round =>
    obtain ⟨k, la, hk, rfl, rfl, hq, hbW⟩ := hrel
    by_cases hlt : k < l.length
    · have e := hq.out
      rw [List.drop_eq_getElem_cons hlt, tlvB_cons] at e
      rcases hr.below hbW (Nat.le_refl _) with h0 | ⟨ad, rfl, _, hka⟩
      · simp [h0] at hlt
      obtain ⟨B, c2, c0, c1, hcl, hcc, hsr, hsb⟩ := hka k hlt
      generalize l[k] = f at *
      obtain ⟨n2, hn2⟩ : ∃ n2, f.val.length = n2 := ⟨_, rfl⟩
      rw [hn2] at c1 e
      have HE := Lib.hid e
      clear e hq hka
      have k0 : (0 : Int) ≤ (k : Int) := by omega
      have k1 : (k : Int) < (l.length : Int) := by omega
      by_cases g1 : f.tag ≤ la
      · have e := HE.out
        rw [if_pos g1] at e
        have HX := Lib.hid e.symm
        clear e HE
        go_wp2
        go_ret
        exact ⟨by rw [HX.out] <;> rfl, bA hbW _⟩
      by_cases g2 : 255 < f.tag
      · have e := HE.out
        rw [if_neg g1, if_pos g2] at e
        have HX := Lib.hid e.symm
        clear e HE
        go_wp2
        go_ret
        exact ⟨by rw [HX.out] <;> rfl, bA hbW _⟩
      by_cases g3 : 255 < n2
      · have e := HE.out
        rw [if_neg g1, if_neg g2, if_pos g3] at e
        have HX := Lib.hid e.symm
        have g3' : (255 : Int) < (n2 : Int) := by omega
        clear e HE
        go_wp2
        go_ret
        exact ⟨by rw [HX.out] <;> rfl, bA hbW _⟩
      · have e := HE.out
        rw [if_neg g1, if_neg g2, if_neg g3] at e
        have HX := Lib.hid e
        have g3' : ¬ (255 : Int) < (n2 : Int) := by omega
        clear e HE
        go_wp2
        go_roundw
        case rel => exact ⟨k + 1, f.tag, by omega, by go_num, rfl, HX, bA hbW _⟩
        case measure => simp [intOf]; omega
    · have e := hq.out
      rw [List.drop_eq_nil_of_le (by omega)] at e
      have HE := Lib.hid (show tlvB 0 l = true from e.symm)
      clear e hq
      go_wp2
      go_ret
      exact ⟨by rw [HE.out] <;> rfl, hbW⟩
end Go.Proofs.Ytachkhjbckapoaa

namespace Go.Proofs.Ytachkhjbckapoaa
open Go.RowKit Go.Shelf
set_option linter.unusedVariables false
set_option maxRecDepth 100000
set_option linter.unusedSimpArgs false

def putF (l : List Fd) : List Int := l.flatMap fun f => f.tag :: (f.val.length : Int) :: f.val
def putE17 (l : List Fd) : List Int × Int := if tlvB 0 l then (putF l, 0) else ([], 1)
theorem putF_cons (f : Fd) (t : List Fd) : putF (f :: t) = f.tag :: (f.val.length : Int) :: (f.val ++ putF t) := by simp [putF]
theorem tlvB_facts : ∀ (l : List Fd) (last : Int), tlvB last l = true → last ≤ 255 → (l.length : Int) ≤ 255 - last ∧ ∀ f ∈ l, last < f.tag ∧ f.tag ≤ 255 ∧ f.val.length ≤ 255
  | [], last, h, hl => ⟨by simp; omega, by simp⟩
  | f :: t, last, h, hl => by
    rw [tlvB_cons] at h
    by_cases g1 : f.tag ≤ last
    · rw [if_pos g1] at h; cases h
    rw [if_neg g1] at h
    by_cases g2 : 255 < f.tag
    · rw [if_pos g2] at h; cases h
    rw [if_neg g2] at h
    by_cases g3 : 255 < f.val.length
    · rw [if_pos g3] at h; cases h
    rw [if_neg g3] at h
    obtain ⟨i1, i2⟩ := tlvB_facts t f.tag h (by omega)
    refine ⟨by simp only [List.length_cons]; omega, fun x hx => ?_⟩
    rcases List.mem_cons.1 hx with rfl | hx
    · omega
    · have := i2 x hx; omega

theorem sx_alloc {N : Nat} {cs : Array Value} {t : TypeId} {u v : Value} {w9 : World} (h : w9.heap[N]? = some (.cells cs t (0, 0)) ∧ w9.cell? ⟨N, 0, none⟩ = some u ∧ w9.cell? ⟨N, 1, none⟩ = some v) (o : Obj) :
    (w9.alloc o).heap[N]? = some (.cells cs t (0, 0)) ∧ (w9.alloc o).cell? ⟨N, 0, none⟩ = some u ∧ (w9.alloc o).cell? ⟨N, 1, none⟩ = some v := by
  have hlt := (Array.getElem?_eq_some_iff.1 h.1).1
  have hb : (w9.alloc o).heap[N]? = w9.heap[N]? := Below.heap_alloc _ _ _ hlt
  exact ⟨hb.trans h.1, (World.cell?_of_block hb).trans h.2.1, (World.cell?_of_block hb).trans h.2.2⟩
theorem sx_grow {N : Nat} {cs : Array Value} {t e : TypeId} {u v : Value} {w9 w2 : World} {base size n : Nat} {row : Value} {xs : List Value} (h : w9.heap[N]? = some (.cells cs t (0, 0)) ∧ w9.cell? ⟨N, 0, none⟩ = some u ∧ w9.cell? ⟨N, 1, none⟩ = some v) (hte : t ≠ e)
    (ho : w9.ownsRow base e size row n xs) (hg : w9.grownBy w2 row.ownBlock) :
    w2.heap[N]? = some (.cells cs t (0, 0)) ∧ w2.cell? ⟨N, 0, none⟩ = some u ∧ w2.cell? ⟨N, 1, none⟩ = some v := by
  have hlt := (Array.getElem?_eq_some_iff.1 h.1).1
  have hne : some N ≠ row.ownBlock := by
    intro e1
    rcases ho.2 with ⟨rfl, _⟩ | ⟨g, cap, cur, rfl, _, hgb, _⟩
    · simp [Value.ownBlock] at e1
    · obtain rfl : N = g := by simpa [Value.ownBlock] using e1
      rw [h.1] at hgb
      injection hgb with hh
      injection hh with _ h2 _
      exact hte h2
  have hb : w2.heap[N]? = w9.heap[N]? := hg.block N hlt hne
  exact ⟨hb.trans h.1, (World.cell?_of_block hb).trans h.2.1, (World.cell?_of_block hb).trans h.2.2⟩

set_option maxHeartbeats 8000000 in
theorem tlvPut_any (A : Option Addr) (c : Nat) (l : List Fd) (w : World) (hr : RdF w A l) (hl : l.length ≤ 9223372036854775807) :
    Calls Try.prog 33 #[.slice A l.length c] w (ByteRetE (putE17 l) w) := by
  obtain ⟨i0, hi, hz0, hz1, hz2⟩ := info_parts infoU8
  have hI := fun W hW => tlvIs_any A c l W hW hl
  cases hz : tlvB 0 l with
  | false =>
    have E := Lib.hid (show putE17 l = ([], 1) by unfold putE17; rw [hz]; rfl)
    rw [hz] at hI
    go_enter Try.func33, Try.ntmps33
    go_wp2_with (go_at_call 77; (with_reducible refine (hI _ hr).mono ?_); rintro e w' ⟨rfl, hb⟩)
    go_ret2
    exact ⟨_, by rw [E.out] <;> rfl, by rw [E.out]; exact World.ownsRow_nil _ _ _ _, hb⟩
  | true =>
    obtain ⟨hn, hfs⟩ := tlvB_facts l 0 hz (by omega)
    have hn255 : l.length ≤ 255 := by omega
    have E := Lib.hid (show putE17 l = (putF l, 0) by unfold putE17; rw [hz]; rfl)
    rw [hz] at hI
    clear hn
    go_enter Try.func33, Try.ntmps33
    go_wp2_with (go_at_call 77; (with_reducible refine (hI _ hr).mono ?_); rintro e w1 ⟨rfl, hb⟩)
    go_loopw [4, 6, 12] (fun v _ i wr => ∃ (k : Nat) (acc : List Int), k ≤ l.length ∧ i = .int .i64 k ∧ wr.ownsRow w.heap.size 5 1 v acc.length (acc.map (.int .u8)) ∧ acc.length ≤ 257 * k ∧ Hid (acc ++ putF (l.drop k) = putF l) ∧ Below w.heap.size w wr) (fun _ _ i _ => l.length - (intOf i).toNat)
    case atStart => exact ⟨0, [], Nat.zero_le _, rfl, World.ownsRow_nil _ _ _ _, by simp, Lib.hid (by simp), hb⟩
    case round =>
      obtain ⟨k, acc, hk, rfl, ho, hal, hq, hbW⟩ := hrel
      by_cases hlt : k < l.length
      · have e := hq.out
        rw [List.drop_eq_getElem_cons hlt, putF_cons] at e
        rcases hr with h0 | ⟨ad, rfl, _, hka⟩
        · simp [h0] at hlt
        obtain ⟨B, c2, c0, c1, hcl, hcc, hsr, hsb⟩ := hka k hlt
        obtain ⟨ft1, ft2, fvl⟩ := hfs _ (List.getElem_mem hlt)
        generalize l[k] = f at *
        obtain ⟨ft, fv⟩ := f
        simp only at ft1 ft2 fvl c0 c1 e hcl hsr hsb
        have HE := Lib.hid e
        have c0' := keep_cell hbW c0
        have c1' := keep_cell hbW c1
        clear e hq hka hfs c0 c1
        have k0 : (0 : Int) ≤ (k : Int) := by omega
        have k1 : (k : Int) < (l.length : Int) := by omega
        have hw1 : IntKind.u8.wrap ft = ft := by rw [IntKind.wrap_u8]; omega
        have hw2 : IntKind.u8.wrap (fv.length : Int) = (fv.length : Int) := by rw [IntKind.wrap_u8]; omega
        have hod : (wr.alloc (.cells #[.int .i64 ft, .slice B fv.length c2] 67)).drew.ownsRow w.heap.size 5 1 u4 acc.length (acc.map (.int .u8)) := ho.alloc _
        have hzz := hbW.size
        have hsz1 : (wr.alloc (.cells #[.int .i64 ft, .slice B fv.length c2] 67)).drew.heap.size = wr.heap.size + 1 := by show (wr.alloc (.cells #[.int .i64 ft, .slice B fv.length c2] 67)).heap.size = _; simp
        have hsz2 : ∀ o, w.heap.size ≤ ((wr.alloc (.cells #[.int .i64 ft, .slice B fv.length c2] 67)).drew.alloc o).heap.size := fun o => by rw [World.size_alloc, hsz1]; omega
        have hS0 : (wr.alloc (.cells #[.int .i64 ft, .slice B fv.length c2] 67)).drew.heap[wr.heap.size]? = some (.cells #[.int .i64 ft, .slice B fv.length c2] 67 (0, 0)) ∧ (wr.alloc (.cells #[.int .i64 ft, .slice B fv.length c2] 67)).drew.cell? ⟨wr.heap.size, 0, none⟩ = some (.int .i64 ft) ∧ (wr.alloc (.cells #[.int .i64 ft, .slice B fv.length c2] 67)).drew.cell? ⟨wr.heap.size, 1, none⟩ = some (.slice B fv.length c2) := ⟨heap_alloc_new wr (.cells #[.int .i64 ft, .slice B fv.length c2] 67), cell_of_row _ _ 0 _ _ _ (heap_alloc_new wr (.cells #[.int .i64 ft, .slice B fv.length c2] 67)), cell_of_row _ _ 1 _ _ _ (heap_alloc_new wr (.cells #[.int .i64 ft, .slice B fv.length c2] 67))⟩
        have tok1 : True := trivial
        have tok2 : True := trivial
        go_wp2
        go_region_held3 (fun w9 => w9.heap[wr.heap.size]? = some (.cells #[.int .i64 ft, .slice B fv.length c2] 67 (0, 0)) ∧ w9.cell? ⟨wr.heap.size, 0, none⟩ = some (.int .i64 ft) ∧ w9.cell? ⟨wr.heap.size, 1, none⟩ = some (.slice B fv.length c2)) (first | assumption | exact hS0 | exact sx_alloc (by assumption) _ | exact hH2 | exact hH3) (first | (rw [if_pos (by rfl)]; have _t := tok1; refine wpO_app (k := .u8) _ _ 30 rfl w.heap.size 5 i0 (.int .u8 0) 1 Try.underlying30 hi hz0 hz1 hz2 rfl u4 acc rfl (hod.alloc _) _ 2 [ft, (fv.length : Int)] rfl (RdI.lit' (l := [ft, (fv.length : Int)]) hsz1) ?_ ?_ ?_ ?_; (focus (exact maxLen_ge (by simp; omega))); (focus (simp; omega)); (focus (exact hsz2 _)); intro v3 w3 ho3 hg3 _; clear tok1; have hH2 := sx_grow (sx_alloc hS0 _) (by decide) (hod.alloc _) hg3; have hb3 := bG (bA (bD (bA hbW (.cells #[.int .i64 ft, .slice B fv.length c2] 67))) (.cells #[.int .u8 ft, .int .u8 (fv.length : Int)] 5)) hg3 (own_ge (hod.alloc (.cells #[.int .u8 ft, .int .u8 (fv.length : Int)] 5)))) | (rw [if_pos (by rfl)]; have _t := tok2; refine wpO_app (k := .u8) _ _ 30 rfl w.heap.size 5 i0 (.int .u8 0) 1 Try.underlying30 hi hz0 hz1 hz2 rfl v3 (acc ++ [ft, (fv.length : Int)]) rfl ho3 _ c2 fv rfl (hsr.below hb3) ?_ ?_ ?_ ?_; (focus (exact maxLen_ge (by simp; omega))); (focus (simp; omega)); (focus (exact hb3.size)); intro v4 w4 ho4 hg4 _; clear tok2; have hH3 := sx_grow hH2 (by decide) ho3 hg4; have hb4 := bG hb3 hg4 (own_ge ho3)))
        go_wp2
        go_roundw
        case rel => exact ⟨k + 1, acc ++ [ft, (fv.length : Int)] ++ fv, by omega, by go_num, ho4, by simp; omega, Lib.hid (by have h := HE.out; rw [← h]; simp), hb4⟩
        case measure => simp [intOf]; omega
      · have e := hq.out
        rw [List.drop_eq_nil_of_le (by omega), show putF [] = [] from rfl, List.append_nil] at e
        have HE := Lib.hid (E.out.trans (by rw [← e]))
        have HO := Lib.hid ho
        clear e hq ho
        go_wp2
        go_ret2
        exact ⟨_, by rw [HE.out] <;> rfl, by rw [HE.out]; exact HO.out, hbW⟩
end Go.Proofs.Ytachkhjbckapoaa

namespace Go.Proofs.Ytachkhjbckapoaa
open Go.RowKit
set_option linter.unusedVariables false
set_option maxRecDepth 100000
set_option linter.unusedSimpArgs false

/-- A field, and the slice of its bytes. -/
structure Fv where
  f : Fd
  B : Option Addr
  c : Nat
def fvCells (l : List Fv) : List Value := l.flatMap fun x => [.int .i64 x.f.tag, .slice x.B x.f.val.length x.c]
theorem fvCells_nil : fvCells [] = [] := rfl
theorem fvCells_cons (x : Fv) (l : List Fv) : fvCells (x :: l) = .int .i64 x.f.tag :: .slice x.B x.f.val.length x.c :: fvCells l := rfl
theorem fvCells_snoc (l : List Fv) (x : Fv) : fvCells (l ++ [x]) = fvCells l ++ [.int .i64 x.f.tag, .slice x.B x.f.val.length x.c] := by simp [fvCells]
theorem fvCells_at : ∀ (l : List Fv) (j : Nat) (h : j < l.length), (fvCells l)[2 * j]? = some (.int .i64 l[j].f.tag) ∧ (fvCells l)[2 * j + 1]? = some (.slice l[j].B l[j].f.val.length l[j].c)
  | x :: l, 0, h => ⟨rfl, rfl⟩
  | x :: l, j + 1, h => by
    have ih := fvCells_at l j (by simpa using h)
    rw [fvCells_cons, show 2 * (j + 1) = 2 * j + 1 + 1 by omega, show 2 * j + 1 + 1 + 1 = (2 * j + 1) + 1 + 1 by omega, List.getElem?_cons_succ, List.getElem?_cons_succ, List.getElem?_cons_succ, List.getElem?_cons_succ]
    exact ih
def FvOk (base : Nat) (w : World) (own : Option Nat) (x : Fv) : Prop :=
  x.f.val.length ≤ x.c ∧ x.c ≤ 9223372036854775807 ∧ RdI w .u8 x.B x.f.val ∧ (∀ b ∈ x.f.val, 0 ≤ b ∧ b < 256) ∧ (x.f.val = [] ∨ ∀ a, x.B = some a → base ≤ a.block ∧ some a.block ≠ own)
/-- A row of the call's own that holds these fields. -/
def OwnF (base : Nat) (w : World) (v : Value) (L : List Fv) : Prop :=
  w.ownsRow base 67 2 v L.length (fvCells L) ∧ ∀ x ∈ L, FvOk base w v.ownBlock x
theorem OwnF.nil (base : Nat) (w : World) : OwnF base w (.slice none 0 0) [] := ⟨World.ownsRow_nil _ _ _ _, by simp⟩
theorem OwnF.below {base : Nat} {w w' : World} {v : Value} {L : List Fv} (h : OwnF base w v L) (hb : Below w.heap.size w w') : OwnF base w' v L :=
  ⟨own_below h.1 hb, fun x hx => by obtain ⟨h1, h2, h3, h4, h5⟩ := h.2 x hx; exact ⟨h1, h2, h3.below hb, h4, h5⟩⟩
theorem OwnF.mono {base base' : Nat} {w : World} {v : Value} {L : List Fv} (h : OwnF base w v L) (hb : base' ≤ base) : OwnF base' w v L :=
  ⟨own_base h.1 hb, fun x hx => by
    obtain ⟨h1, h2, h3, h4, h5⟩ := h.2 x hx
    exact ⟨h1, h2, h3, h4, h5.imp id fun h a ha => ⟨Nat.le_trans hb (h a ha).1, (h a ha).2⟩⟩⟩
theorem OwnF.app {base : Nat} {w w' : World} {v v' : Value} {L : List Fv} {x : Fv} (h : OwnF base w v L) (hx : FvOk base w v.ownBlock x)
    (ho : w'.ownsRow base 67 2 v' (L.length + 1) (fvCells L ++ [.int .i64 x.f.tag, .slice x.B x.f.val.length x.c])) (hg : w.grownBy w' v.ownBlock) (ha : v'.ownBlock = v.ownBlock ∨ v'.ownBlock = some w.heap.size) : OwnF base w' v' (L ++ [x]) := by
  refine ⟨by rw [fvCells_snoc, List.length_append]; exact ho, ?_⟩
  have K : ∀ y, FvOk base w v.ownBlock y → FvOk base w' v'.ownBlock y := by
    rintro y ⟨h1, h2, h3, h4, h5⟩
    refine ⟨h1, h2, ?_, h4, ?_⟩
    · rcases h3 with h3 | ⟨ad, e, hlt, hc⟩
      · exact .inl h3
      · rcases h5 with h5 | h5
        · exact .inl h5
        · have hne := (h5 ad e).2
          have hs : ad.block < w'.heap.size := by
            have hbk := hg.block ad.block hlt hne
            rcases Nat.lt_or_ge ad.block w'.heap.size with h | h
            · exact h
            · rw [Array.getElem?_eq_none h, Array.getElem?_eq_getElem hlt] at hbk
              cases hbk
          exact .inr ⟨ad, e, hs, fun j hj => (World.cell?_of_block (hg.block (ad.add j).block (by rw [add_block]; exact hlt) (by rw [add_block]; exact hne))).trans (hc j hj)⟩
    · rcases h5 with h5 | h5
      · exact .inl h5
      · rcases h3 with h3 | ⟨ad, e, hlt, hc⟩
        · exact .inl h3
        · refine .inr fun a hae => ?_
          obtain rfl : ad = a := by rw [e] at hae; exact Option.some.inj hae
          refine ⟨(h5 ad e).1, ?_⟩
          rcases ha with ha | ha
          · rw [ha]; exact (h5 ad e).2
          · rw [ha]; intro h; injection h with h; omega
  intro y hy
  rcases List.mem_append.1 hy with hy | hy
  · exact K y (h.2 y hy)
  · obtain rfl := List.mem_singleton.1 hy
    exact K _ hx
theorem OwnF.rdF {base : Nat} {w : World} {v : Value} {L : List Fv} (h : OwnF base w v L) : ∃ A c, v = .slice A L.length c ∧ L.length ≤ c ∧ c ≤ 9223372036854775807 ∧ RdF w A (L.map (·.f)) := by
  rcases h.1.2 with ⟨rfl, h0⟩ | ⟨g, cap, cur, rfl, _, hh, h1, h2, _⟩
  · obtain rfl := List.eq_nil_of_length_eq_zero h0
    exact ⟨none, 0, rfl, Nat.le_refl _, by omega, .inl rfl⟩
  · refine ⟨some ⟨g, 0, none⟩, cap, rfl, h1, by unfold maxLen at h2; omega, .inr ⟨_, rfl, (h.1.lt g rfl).2, fun j hj => ?_⟩⟩
    rw [List.length_map] at hj
    obtain ⟨e0, e1⟩ := fvCells_at L j hj
    have c0 := h.1.cells rfl _ _ e0
    have c1 := h.1.cells rfl _ _ e1
    obtain ⟨k1, k2, k3, k4, k5⟩ := h.2 _ (List.getElem_mem hj)
    rw [List.getElem_map]
    have ea : ∀ i, (⟨g, 0, none⟩ : Addr).add i = ⟨g, i, none⟩ := by intro i; unfold Addr.add; by_cases hi : i = 0 <;> simp [hi]
    rw [ea] at c0 c1
    rw [ea, Nat.mul_comm j 2]
    exact ⟨L[j].B, L[j].c, c0, c1, k1, k2, k3, k4⟩
/-- append(v, x...) at one operation of a region. -/
theorem wpO_app_own {P : Program} {w : World} {o : Oper} {a : Act} {Q : Exit → Act → World → Prop} {K : Act → World → Prop} (s x : Operand) (t : TypeId)
    (ho : o.op = .call { callee := .builtin .append, args := #[s, x], argTypes := #[t, t] })
    (base : Nat) (e : TypeId) (i : TypeInfo) (z : Value) (size bytes : Nat) (ht : P.underlying t = some (.slice e)) (hi : P.info? e = some i) (hz : i.zero = some z)
    (hsize : i.size = size) (hby : i.bytes = bytes) (hzs : z.cells.size = size) (hsz : 0 < size)
    (v : Value) (n : Nat) (xs : List Value) (hs : a.eval s = v) (hown : w.ownsRow base e size v n xs)
    (ad : Addr) (m c : Nat) (news : List Value) (hx : a.eval x = .slice (some ad) m c) (hl : news.length = m * size) (hnews : ∀ j u, news[j]? = some u → w.cell? (ad.add j) = some u) (h1 : ∀ u ∈ news, u.oneCell' = true)
    (h63 : n + m ≤ maxLen) (hbytes : (n + m) * bytes ≤ 140737488355328) (hbase : base ≤ w.heap.size)
    (h : ∀ v' w', w'.ownsRow base e size v' (n + m) (xs ++ news) → w.grownBy w' v.ownBlock → (v'.ownBlock = v.ownBlock ∨ v'.ownBlock = some w.heap.size) → K (a.put o.dst v') w') :
    o.wp P a w K Q := by
  obtain ⟨v', w', hr, h2, h3, h4, h5⟩ := run_append_own_at (P := P) w base t o.type e i z size bytes ht hi hz hsize hby hzs hsz v n xs hown ad m c news hl hnews h1 h63 hbytes hbase
  unfold Oper.wp execOp
  simp only [ho, resolve, invoke, builtin, Sem.run_bind, Sem.run_pure, Result.andThen_ok, List.map_toArray, List.map_cons, List.map_nil, hs, hx, hr]
  exact h v' w' h2 h3 h5
theorem OwnF.set {base g : Nat} {w : World} {v u : Value} {L : List Fv} (h : OwnF base w v L) (hg : g < base) : OwnF base (w.setCell ⟨g, 0, none⟩ u) v L := by
  have hb : Below base w (w.setCell ⟨g, 0, none⟩ u) → True := fun _ => trivial
  have hs : (w.setCell ⟨g, 0, none⟩ u).heap.size = w.heap.size := by simp
  have K : ∀ b, base ≤ b → (w.setCell ⟨g, 0, none⟩ u).heap[b]? = w.heap[b]? := fun b hb => Below.heap_setCell w _ u b (by show b ≠ g; omega)
  obtain ⟨⟨h1, h2⟩, h3⟩ := h
  refine ⟨⟨h1, h2.imp id fun ⟨k, cap, cur, e1, e2, e3, e4⟩ => ⟨k, cap, cur, e1, e2, (K k e2).trans e3, e4⟩⟩, fun x hx => ?_⟩
  obtain ⟨k1, k2, k3, k4, k5⟩ := h3 x hx
  refine ⟨k1, k2, ?_, k4, k5⟩
  rcases k3 with k3 | ⟨ad, e, hlt, hc⟩
  · exact .inl k3
  · rcases k5 with k5 | k5
    · exact .inl k5
    · exact .inr ⟨ad, e, by rw [hs]; exact hlt, fun j hj => (World.cell?_of_block (K (ad.add j).block (by rw [add_block]; exact (k5 ad e).1))).trans (hc j hj)⟩
theorem fcells_new (w : World) (l : List Value) (t : TypeId) : ∀ j u, l[j]? = some u → (w.alloc (.cells l.toArray t)).cell? ((⟨w.heap.size, 0, none⟩ : Addr).add j) = some u := by
  intro j u hj
  have e : (⟨w.heap.size, 0, none⟩ : Addr).add j = ⟨w.heap.size, j, none⟩ := by
    unfold Addr.add; by_cases h : j = 0 <;> simp [h]
  rw [e, cell_of_row _ w.heap.size j _ t (0, 0) (heap_alloc_new w _)]
  simpa using hj
theorem infoFd : (Try.prog.info? 67).map (fun i => (i.zero, i.size, i.bytes)) = some (some (.agg #[.int .i64 0, .slice none 0 0]), 2, 32) := by kernel_rfl
/-- What a call returns that tells fields: a row of its own, and an error. -/
def FieldsRet (r : List Fd × Int) (w : World) (e : Ending) (w' : World) : Prop :=
  ∃ (v : Value) (L : List Fv), e = .returned (.tuple #[v, .int .i64 r.2]) ∧ L.map (·.f) = r.1 ∧ OwnF w.heap.size w' v L ∧ Below w.heap.size w w'
theorem infoF : (Try.prog.info? 67).map (·.size) = some 2 := by kernel_rfl
end Go.Proofs.Ytachkhjbckapoaa

/- Layer 17: fields as bytes, what tlv.Put computes. No condition. -/
import Derived.Test.YtiogogbkgekkdaaTlvIs
import Derived.Test.YtiogogbkgekkdaaBcdJoin
namespace Go.Proofs.Ytiogogbkgekkdaa
open Go.RowKit Go.Shelf
set_option linter.unusedVariables false
set_option maxRecDepth 100000
set_option linter.unusedSimpArgs false

def putF (l : List Fd) : List Int := l.flatMap fun f => f.tag :: (f.val.length : Int) :: f.val
def putE17 (l : List Fd) : List Int × Int := if tlvB 0 l then (putF l, 0) else ([], 1)
theorem putF_cons (f : Fd) (t : List Fd) : putF (f :: t) = f.tag :: (f.val.length : Int) :: (f.val ++ putF t) := by simp [putF]
theorem tlvB_facts : ∀ (l : List Fd) (last : Int), tlvB last l = true → last ≤ 255 → (l.length : Int) ≤ 255 - last ∧ ∀ f ∈ l, last < f.tag ∧ f.tag ≤ 255 ∧ f.val.length ≤ 255
  | [], last, h, hl => ⟨by simp; omega, by simp⟩
  | f :: t, last, h, hl => by
    rw [tlvB_cons] at h
    by_cases g1 : f.tag ≤ last
    · rw [if_pos g1] at h; cases h
    rw [if_neg g1] at h
    by_cases g2 : 255 < f.tag
    · rw [if_pos g2] at h; cases h
    rw [if_neg g2] at h
    by_cases g3 : 255 < f.val.length
    · rw [if_pos g3] at h; cases h
    rw [if_neg g3] at h
    obtain ⟨i1, i2⟩ := tlvB_facts t f.tag h (by omega)
    refine ⟨by simp only [List.length_cons]; omega, fun x hx => ?_⟩
    rcases List.mem_cons.1 hx with rfl | hx
    · omega
    · have := i2 x hx; omega

theorem sx_alloc {N : Nat} {cs : Array Value} {t : TypeId} {u v : Value} {w9 : World} (h : w9.heap[N]? = some (.cells cs t (0, 0)) ∧ w9.cell? ⟨N, 0, none⟩ = some u ∧ w9.cell? ⟨N, 1, none⟩ = some v) (o : Obj) :
    (w9.alloc o).heap[N]? = some (.cells cs t (0, 0)) ∧ (w9.alloc o).cell? ⟨N, 0, none⟩ = some u ∧ (w9.alloc o).cell? ⟨N, 1, none⟩ = some v := by
  have hlt := (Array.getElem?_eq_some_iff.1 h.1).1
  have hb : (w9.alloc o).heap[N]? = w9.heap[N]? := Below.heap_alloc _ _ _ hlt
  exact ⟨hb.trans h.1, (World.cell?_of_block hb).trans h.2.1, (World.cell?_of_block hb).trans h.2.2⟩
theorem sx_grow {N : Nat} {cs : Array Value} {t e : TypeId} {u v : Value} {w9 w2 : World} {base size n : Nat} {row : Value} {xs : List Value} (h : w9.heap[N]? = some (.cells cs t (0, 0)) ∧ w9.cell? ⟨N, 0, none⟩ = some u ∧ w9.cell? ⟨N, 1, none⟩ = some v) (hte : t ≠ e)
    (ho : w9.ownsRow base e size row n xs) (hg : w9.grownBy w2 row.ownBlock) :
    w2.heap[N]? = some (.cells cs t (0, 0)) ∧ w2.cell? ⟨N, 0, none⟩ = some u ∧ w2.cell? ⟨N, 1, none⟩ = some v := by
  have hlt := (Array.getElem?_eq_some_iff.1 h.1).1
  have hne : some N ≠ row.ownBlock := by
    intro e1
    rcases ho.2 with ⟨rfl, _⟩ | ⟨g, cap, cur, rfl, _, hgb, _⟩
    · simp [Value.ownBlock] at e1
    · obtain rfl : N = g := by simpa [Value.ownBlock] using e1
      rw [h.1] at hgb
      injection hgb with hh
      injection hh with _ h2 _
      exact hte h2
  have hb : w2.heap[N]? = w9.heap[N]? := hg.block N hlt hne
  exact ⟨hb.trans h.1, (World.cell?_of_block hb).trans h.2.1, (World.cell?_of_block hb).trans h.2.2⟩

set_option maxHeartbeats 8000000 in
theorem tlvPut_any (A : Option Addr) (c : Nat) (l : List Fd) (w : World) (hr : RdF w A l) (hl : l.length ≤ 9223372036854775807) :
    Calls Try.prog 51 #[.slice A l.length c] w (ByteRetE (putE17 l) w) := by
  obtain ⟨i0, hi, hz0, hz1, hz2⟩ := info_parts infoU8
  have hI := fun W hW => tlvIs_any A c l W hW hl
  cases hz : tlvB 0 l with
  | false =>
    have E := Lib.hid (show putE17 l = ([], 1) by unfold putE17; rw [hz]; rfl)
    rw [hz] at hI
    go_enter Try.func51, Try.ntmps51
    go_wp2_with (go_at_call 99; (with_reducible refine (hI _ hr).mono ?_); rintro e w' ⟨rfl, hb⟩)
    go_ret2
    exact ⟨_, by rw [E.out] <;> rfl, by rw [E.out]; exact World.ownsRow_nil _ _ _ _, hb⟩
  | true =>
    obtain ⟨hn, hfs⟩ := tlvB_facts l 0 hz (by omega)
    have hn255 : l.length ≤ 255 := by omega
    have E := Lib.hid (show putE17 l = (putF l, 0) by unfold putE17; rw [hz]; rfl)
    rw [hz] at hI
    clear hn
    go_enter Try.func51, Try.ntmps51
    go_wp2_with (go_at_call 99; (with_reducible refine (hI _ hr).mono ?_); rintro e w1 ⟨rfl, hb⟩)
    go_loopw [4, 6, 12] (fun v _ i wr => ∃ (k : Nat) (acc : List Int), k ≤ l.length ∧ i = .int .i64 k ∧ wr.ownsRow w.heap.size 5 1 v acc.length (acc.map (.int .u8)) ∧ acc.length ≤ 257 * k ∧ Hid (acc ++ putF (l.drop k) = putF l) ∧ Below w.heap.size w wr) (fun _ _ i _ => l.length - (intOf i).toNat)
    case atStart => exact ⟨0, [], Nat.zero_le _, rfl, World.ownsRow_nil _ _ _ _, by simp, Lib.hid (by simp), hb⟩
    case round =>
      obtain ⟨k, acc, hk, rfl, ho, hal, hq, hbW⟩ := hrel
      by_cases hlt : k < l.length
      · have e := hq.out
        rw [List.drop_eq_getElem_cons hlt, putF_cons] at e
        rcases hr with h0 | ⟨ad, rfl, _, hka⟩
        · simp [h0] at hlt
        obtain ⟨B, c2, c0, c1, hcl, hcc, hsr, hsb⟩ := hka k hlt
        obtain ⟨ft1, ft2, fvl⟩ := hfs _ (List.getElem_mem hlt)
        generalize l[k] = f at *
        obtain ⟨ft, fv⟩ := f
        simp only at ft1 ft2 fvl c0 c1 e hcl hsr hsb
        have HE := Lib.hid e
        have c0' := keep_cell hbW c0
        have c1' := keep_cell hbW c1
        clear e hq hka hfs c0 c1
        have k0 : (0 : Int) ≤ (k : Int) := by omega
        have k1 : (k : Int) < (l.length : Int) := by omega
        have hw1 : IntKind.u8.wrap ft = ft := by rw [IntKind.wrap_u8]; omega
        have hw2 : IntKind.u8.wrap (fv.length : Int) = (fv.length : Int) := by rw [IntKind.wrap_u8]; omega
        have hod : (wr.alloc (.cells #[.int .i64 ft, .slice B fv.length c2] 82)).drew.ownsRow w.heap.size 5 1 u4 acc.length (acc.map (.int .u8)) := ho.alloc _
        have hzz := hbW.size
        have hsz1 : (wr.alloc (.cells #[.int .i64 ft, .slice B fv.length c2] 82)).drew.heap.size = wr.heap.size + 1 := by show (wr.alloc (.cells #[.int .i64 ft, .slice B fv.length c2] 82)).heap.size = _; simp
        have hsz2 : ∀ o, w.heap.size ≤ ((wr.alloc (.cells #[.int .i64 ft, .slice B fv.length c2] 82)).drew.alloc o).heap.size := fun o => by rw [World.size_alloc, hsz1]; omega
        have hS0 : (wr.alloc (.cells #[.int .i64 ft, .slice B fv.length c2] 82)).drew.heap[wr.heap.size]? = some (.cells #[.int .i64 ft, .slice B fv.length c2] 82 (0, 0)) ∧ (wr.alloc (.cells #[.int .i64 ft, .slice B fv.length c2] 82)).drew.cell? ⟨wr.heap.size, 0, none⟩ = some (.int .i64 ft) ∧ (wr.alloc (.cells #[.int .i64 ft, .slice B fv.length c2] 82)).drew.cell? ⟨wr.heap.size, 1, none⟩ = some (.slice B fv.length c2) := ⟨heap_alloc_new wr (.cells #[.int .i64 ft, .slice B fv.length c2] 82), cell_of_row _ _ 0 _ _ _ (heap_alloc_new wr (.cells #[.int .i64 ft, .slice B fv.length c2] 82)), cell_of_row _ _ 1 _ _ _ (heap_alloc_new wr (.cells #[.int .i64 ft, .slice B fv.length c2] 82))⟩
        have tok1 : True := trivial
        have tok2 : True := trivial
        go_wp2
        go_region_held3 (fun w9 => w9.heap[wr.heap.size]? = some (.cells #[.int .i64 ft, .slice B fv.length c2] 82 (0, 0)) ∧ w9.cell? ⟨wr.heap.size, 0, none⟩ = some (.int .i64 ft) ∧ w9.cell? ⟨wr.heap.size, 1, none⟩ = some (.slice B fv.length c2)) (first | assumption | exact hS0 | exact sx_alloc (by assumption) _ | exact hH2 | exact hH3) (first | (rw [if_pos (by rfl)]; have _t := tok1; refine wpO_app (k := .u8) _ _ 24 rfl w.heap.size 5 i0 (.int .u8 0) 1 Try.underlying24 hi hz0 hz1 hz2 rfl u4 acc rfl (hod.alloc _) _ 2 [ft, (fv.length : Int)] rfl (RdI.lit' (l := [ft, (fv.length : Int)]) hsz1) ?_ ?_ ?_ ?_; (focus (exact maxLen_ge (by simp; omega))); (focus (simp; omega)); (focus (exact hsz2 _)); intro v3 w3 ho3 hg3 _; clear tok1; have hH2 := sx_grow (sx_alloc hS0 _) (by decide) (hod.alloc _) hg3; have hb3 := bG (bA (bD (bA hbW (.cells #[.int .i64 ft, .slice B fv.length c2] 82))) (.cells #[.int .u8 ft, .int .u8 (fv.length : Int)] 5)) hg3 (own_ge (hod.alloc (.cells #[.int .u8 ft, .int .u8 (fv.length : Int)] 5)))) | (rw [if_pos (by rfl)]; have _t := tok2; refine wpO_app (k := .u8) _ _ 24 rfl w.heap.size 5 i0 (.int .u8 0) 1 Try.underlying24 hi hz0 hz1 hz2 rfl v3 (acc ++ [ft, (fv.length : Int)]) rfl ho3 _ c2 fv rfl (hsr.below hb3) ?_ ?_ ?_ ?_; (focus (exact maxLen_ge (by simp; omega))); (focus (simp; omega)); (focus (exact hb3.size)); intro v4 w4 ho4 hg4 _; clear tok2; have hH3 := sx_grow hH2 (by decide) ho3 hg4; have hb4 := bG hb3 hg4 (own_ge ho3)))
        go_wp2
        go_roundw
        case rel => exact ⟨k + 1, acc ++ [ft, (fv.length : Int)] ++ fv, by omega, by go_num, ho4, by simp; omega, Lib.hid (by have h := HE.out; rw [← h]; simp), hb4⟩
        case measure => simp [intOf]; omega
      · have e := hq.out
        rw [List.drop_eq_nil_of_le (by omega), show putF [] = [] from rfl, List.append_nil] at e
        have HE := Lib.hid (E.out.trans (by rw [← e]))
        have HO := Lib.hid ho
        clear e hq ho
        go_wp2
        go_ret2
        exact ⟨_, by rw [HE.out] <;> rfl, by rw [HE.out]; exact HO.out, hbW⟩
end Go.Proofs.Ytiogogbkgekkdaa

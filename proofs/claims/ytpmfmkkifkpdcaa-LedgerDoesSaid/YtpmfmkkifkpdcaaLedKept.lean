/- Layer 24's example, walked: it comes to true. No condition. -/
import Derived.Test.YtpmfmkkifkpdcaaLedSame
namespace Go.Proofs.Ytpmfmkkifkpdcaa
open Go.RowKit Go.Maps
set_option linter.unusedVariables false
set_option maxRecDepth 100000
set_option linter.unusedSimpArgs false

def sgl (n : Int) : En := ⟨n, 1, 1, 2, 1, 0, 0, 0, 1, 1, 0, 1, 0, false⟩
def sglB : En := ⟨7, 1, 1, 2, 1, 0, 0, 0, 1, 1, 0, 1, 0, true⟩
def sglC : En := ⟨7, 1, 1, 2, 1, 0, 0, 0, 1, 1, 0, 2, 0, true⟩
theorem led_res1 {P : Program} {fn : Func} {t : Tmp} {T ty : TypeId} (h : fn.results = #[.cell t T]) {d : TypeDesc} (hu : P.underlying T = some d) (hd : (match d with | .struct _ | .array _ _ => true | _ => false) = true)
    {tmps : Array Value} {g : Nat} {cs : Array Value} {fr : Nat × Nat} (hp : tmps.getD t undef = .pointer (some ⟨g, 0, none⟩)) {w : World} (hg : w.heap[g]? = some (.cells cs ty fr)) (hi : (P.info? T).map (·.size) = some cs.size) :
    (results fn tmps).run P w = .ok (.agg cs) w := by
  have hl := run_loadVar_row (P := P) w g ty T cs fr d hg hu hd hi
  simp only [results, h, Array.mapM_eq_mapM_toList, List.mapM_cons, List.mapM_nil]
  simp [Sem.run_bind, hp, asAddr, hl, Result.andThen]
theorem single_any (n : Int) (w : World) :
    Calls Try.prog 44 #[.int .i64 n] w fun r w' => r = .returned (.agg (sgl n).row.toArray) ∧ Below w.heap.size w w' := by
  go_enter Try.func44, Try.ntmps44
  go_wp2
  refine bodyPost_ret (led_res1 rfl Try.underlying37 rfl rfl (heap_alloc_new w _) (by exact infoEn)) rfl ⟨rfl, bel1 _ _⟩

theorem led_rowset {w : World} {g : Nat} {cs : Array Value} {T : TypeId} {fr : Nat × Nat} (h : w.heap[g]? = some (.cells cs T fr)) (k : Nat) (v : Value) : (w.setCell ⟨g, k, none⟩ v).heap[g]? = some (.cells (cs.setIfInBounds k v) T fr) := by
  unfold World.setCell
  simp [Array.getElem?_modify, h]
theorem RdE.setCell {w : World} {A : Option Addr} {S : List En} {g k : Nat} {v : Value} (h : RdE w A S) (hA : ∀ a, A = some a → a.block ≠ g) : RdE (w.setCell ⟨g, k, none⟩ v) A S := by
  rcases h with h | ⟨ad, e, hlt, hk⟩
  · exact .inl h
  · have K : ∀ {a : Addr} {u : Value}, a.block = ad.block → w.cell? a = some u → (w.setCell ⟨g, k, none⟩ v).cell? a = some u := fun ha hc => (World.cell?_of_block (Below.heap_setCell _ _ _ _ (by rw [ha]; exact hA ad e))).trans hc
    exact .inr ⟨ad, e, by simpa using hlt, fun j hj => ⟨K (add_block _ _) (hk j hj).1, fun c u hu => K (add_block _ _) ((hk j hj).2 c u hu)⟩⟩

theorem kept_s {W0 : World} {ad : Addr} {bx by_ : Nat} (HX : Hid (W0.heap[bx]? = some (.cells (sglB.row.toArray.setIfInBounds 11 (.int .i64 2)) 37 (0, 0)))) (HY : Hid (W0.heap[by_]? = some (.cells sglB.row.toArray 37 (0, 0)))) (HR : Hid (RdE W0 (some ad) [sgl 3, sglB])) {w9 : World} (h : Below W0.heap.size W0 w9) :
    Below W0.heap.size W0 w9 ∧ w9.cell? ⟨bx, 0, none⟩ = some (.int .i64 7) ∧ w9.cell? ⟨bx, 1, none⟩ = some (.int .i64 1) ∧ w9.cell? ⟨bx, 2, none⟩ = some (.int .i64 1) ∧ w9.cell? ⟨bx, 3, none⟩ = some (.int .i64 2) ∧ w9.cell? ⟨bx, 4, none⟩ = some (.int .i64 1) ∧ w9.cell? ⟨bx, 5, none⟩ = some (.int .i64 0) ∧ w9.cell? ⟨bx, 6, none⟩ = some (.int .i64 0) ∧ w9.cell? ⟨bx, 7, none⟩ = some (.int .i64 0) ∧ w9.cell? ⟨bx, 8, none⟩ = some (.int .i64 1) ∧ w9.cell? ⟨bx, 9, none⟩ = some (.int .i64 1) ∧ w9.cell? ⟨bx, 10, none⟩ = some (.int .i64 0) ∧ w9.cell? ⟨bx, 11, none⟩ = some (.int .i64 2) ∧ w9.cell? ⟨bx, 12, none⟩ = some (.int .i64 0) ∧ w9.cell? ⟨bx, 13, none⟩ = some (.bool true) ∧ w9.cell? ⟨by_, 0, none⟩ = some (.int .i64 7) ∧ w9.cell? ⟨by_, 1, none⟩ = some (.int .i64 1) ∧ w9.cell? ⟨by_, 2, none⟩ = some (.int .i64 1) ∧ w9.cell? ⟨by_, 3, none⟩ = some (.int .i64 2) ∧ w9.cell? ⟨by_, 4, none⟩ = some (.int .i64 1) ∧ w9.cell? ⟨by_, 5, none⟩ = some (.int .i64 0) ∧ w9.cell? ⟨by_, 6, none⟩ = some (.int .i64 0) ∧ w9.cell? ⟨by_, 7, none⟩ = some (.int .i64 0) ∧ w9.cell? ⟨by_, 8, none⟩ = some (.int .i64 1) ∧ w9.cell? ⟨by_, 9, none⟩ = some (.int .i64 1) ∧ w9.cell? ⟨by_, 10, none⟩ = some (.int .i64 0) ∧ w9.cell? ⟨by_, 11, none⟩ = some (.int .i64 1) ∧ w9.cell? ⟨by_, 12, none⟩ = some (.int .i64 0) ∧ w9.cell? ⟨by_, 13, none⟩ = some (.bool true) ∧ w9.cell? ad = some (.int .i64 3) ∧ w9.cell? ⟨ad.block, ad.off + 14, none⟩ = some (.int .i64 7) ∧ w9.cell? ⟨ad.block, ad.off + 14 + 1, none⟩ = some (.int .i64 1) ∧ w9.cell? ⟨ad.block, ad.off + 14 + 2, none⟩ = some (.int .i64 1) ∧ w9.cell? ⟨ad.block, ad.off + 14 + 3, none⟩ = some (.int .i64 2) ∧ w9.cell? ⟨ad.block, ad.off + 14 + 4, none⟩ = some (.int .i64 1) ∧ w9.cell? ⟨ad.block, ad.off + 14 + 5, none⟩ = some (.int .i64 0) ∧ w9.cell? ⟨ad.block, ad.off + 14 + 6, none⟩ = some (.int .i64 0) ∧ w9.cell? ⟨ad.block, ad.off + 14 + 7, none⟩ = some (.int .i64 0) ∧ w9.cell? ⟨ad.block, ad.off + 14 + 8, none⟩ = some (.int .i64 1) ∧ w9.cell? ⟨ad.block, ad.off + 14 + 9, none⟩ = some (.int .i64 1) ∧ w9.cell? ⟨ad.block, ad.off + 14 + 10, none⟩ = some (.int .i64 0) ∧ w9.cell? ⟨ad.block, ad.off + 14 + 11, none⟩ = some (.int .i64 1) ∧ w9.cell? ⟨ad.block, ad.off + 14 + 12, none⟩ = some (.int .i64 0) ∧ w9.cell? ⟨ad.block, ad.off + 14 + 13, none⟩ = some (.bool true) := by
  have hx := (h.block bx (Array.getElem?_eq_some_iff.1 HX.out).1).trans HX.out
  have hy := (h.block by_ (Array.getElem?_eq_some_iff.1 HY.out).1).trans HY.out
  rcases HR.out.below h (Nat.le_refl _) with e | ⟨ad', e, _, hk⟩
  · cases e
  · obtain rfl := Option.some.inj e
    have h0 := hk 0 (by decide)
    have h1 := hk 1 (by decide)
    have h00 := h0.1
    rw [show 0 * 14 = 0 from rfl, add_zero] at h00
    rw [show 1 * 14 = 14 from rfl, add_succ ad 13] at h1
    exact ⟨h, (cell_of_row _ _ 0 _ _ _ hx).trans rfl, (cell_of_row _ _ 1 _ _ _ hx).trans rfl, (cell_of_row _ _ 2 _ _ _ hx).trans rfl, (cell_of_row _ _ 3 _ _ _ hx).trans rfl, (cell_of_row _ _ 4 _ _ _ hx).trans rfl, (cell_of_row _ _ 5 _ _ _ hx).trans rfl, (cell_of_row _ _ 6 _ _ _ hx).trans rfl, (cell_of_row _ _ 7 _ _ _ hx).trans rfl, (cell_of_row _ _ 8 _ _ _ hx).trans rfl, (cell_of_row _ _ 9 _ _ _ hx).trans rfl, (cell_of_row _ _ 10 _ _ _ hx).trans rfl, (cell_of_row _ _ 11 _ _ _ hx).trans rfl, (cell_of_row _ _ 12 _ _ _ hx).trans rfl, (cell_of_row _ _ 13 _ _ _ hx).trans rfl, (cell_of_row _ _ 0 _ _ _ hy).trans rfl, (cell_of_row _ _ 1 _ _ _ hy).trans rfl, (cell_of_row _ _ 2 _ _ _ hy).trans rfl, (cell_of_row _ _ 3 _ _ _ hy).trans rfl, (cell_of_row _ _ 4 _ _ _ hy).trans rfl, (cell_of_row _ _ 5 _ _ _ hy).trans rfl, (cell_of_row _ _ 6 _ _ _ hy).trans rfl, (cell_of_row _ _ 7 _ _ _ hy).trans rfl, (cell_of_row _ _ 8 _ _ _ hy).trans rfl, (cell_of_row _ _ 9 _ _ _ hy).trans rfl, (cell_of_row _ _ 10 _ _ _ hy).trans rfl, (cell_of_row _ _ 11 _ _ _ hy).trans rfl, (cell_of_row _ _ 12 _ _ _ hy).trans rfl, (cell_of_row _ _ 13 _ _ _ hy).trans rfl, h00, h1.1, h1.2 0 _ rfl, h1.2 1 _ rfl, h1.2 2 _ rfl, h1.2 3 _ rfl, h1.2 4 _ rfl, h1.2 5 _ rfl, h1.2 6 _ rfl, h1.2 7 _ rfl, h1.2 8 _ rfl, h1.2 9 _ rfl, h1.2 10 _ rfl, h1.2 11 _ rfl, h1.2 12 _ rfl⟩

set_option maxHeartbeats 8000000 in
set_option maxRecDepth 100000 in
theorem kept_any (w : World) : Calls Try.prog 23 #[] w fun r w' => r = .returned (.bool true) ∧ Below w.heap.size w w' := by
  have a1 : addR 2 [] (sgl 7) = ([sgl 7], 0) := by kernel_rfl
  have a2 : addR 2 [sgl 7] (sgl 3) = ([sgl 3, sgl 7], 0) := by kernel_rfl
  have a3 : addR 2 [sgl 3, sgl 7] (sgl 7) = ([sgl 3, sgl 7], 10) := by kernel_rfl
  have a4 : addR 2 [sgl 3, sgl 7] (sgl 9) = ([sgl 3, sgl 7], 19) := by kernel_rfl
  have a5 : setR [sgl 3, sgl 7] sglB = ([sgl 3, sglB], 0) := by kernel_rfl
  have a6 : setR [sgl 3, sglB] (sgl 9) = ([sgl 3, sglB], 20) := by kernel_rfl
  have a7 : gotR [sgl 3, sglB] 7 = (sglB, 0) := by kernel_rfl
  have a8 : gotR [sgl 3, sglB] 9 = (zE, 20) := by kernel_rfl
  have a9 : setR [sgl 3, sglB] sglC = ([sgl 3, sglB], 1) := by kernel_rfl
  have o1 : sglB.ok = true := by kernel_rfl
  have o2 : sglC.ok = false := by kernel_rfl
  go_enter Try.func23, Try.ntmps23
  go_wp2_with fail
  refine (ledNew_any 2 w (by decide) (by decide)).mono ?_
  rintro r w1 ⟨rfl, hl, hb⟩
  have HL1 := Lib.hid hl
  have HB1 := Lib.hid hb
  clear hl hb
  go_wp2_with fail
  refine (single_any 7 _).mono ?_
  rintro r w2 ⟨rfl, hb⟩
  dsimp only [sgl, En.row]
  have hB : Below w1.heap.size w1 w2 := (by repeat (first | (with_reducible exact bR _) | (with_reducible refine bT ?_ (by assumption)) | (with_reducible apply bA) | (with_reducible apply bD) | (with_reducible apply bN) | (with_reducible refine bS ?_ (by first | omega | (simp; done) | (simp; omega)))))
  have HL2 := Lib.hid (HL1.out.below hB (Nat.le_refl _))
  have HB2 := Lib.hid (bT HB1.out hB)
  clear hb hB
  go_wp2_with fail
  have hB : ∀ W, Below w2.heap.size w2 W → Led W (w.heap.size + 1) w.heap.size 2 [] := fun W h => HL2.out.below h (Nat.le_refl _)
  refine (ledAdd_any (w.heap.size + 1) w.heap.size 2 [] (sgl 7) _ (hB _ (by repeat (first | (with_reducible exact bR _) | (with_reducible refine bT ?_ (by assumption)) | (with_reducible apply bA) | (with_reducible apply bD) | (with_reducible apply bN) | (with_reducible refine bS ?_ (by first | omega | (simp; done) | (simp; omega))))))).mono ?_
  rw [a1]
  rintro r w3 ⟨rfl, hl, hg⟩
  have HL3 := Lib.hid hl
  have HB3 := Lib.hid (HB2.out.trans ((show Below w2.heap.size w2 _ from (by repeat (first | (with_reducible exact bR _) | (with_reducible refine bT ?_ (by assumption)) | (with_reducible apply bA) | (with_reducible apply bD) | (with_reducible apply bN) | (with_reducible refine bS ?_ (by first | omega | (simp; done) | (simp; omega)))))).mono HB2.out.size |>.trans (below_of_grown hg (Nat.le_trans HB2.out.size (show Below w2.heap.size w2 _ from (by repeat (first | (with_reducible exact bR _) | (with_reducible refine bT ?_ (by assumption)) | (with_reducible apply bA) | (with_reducible apply bD) | (with_reducible apply bN) | (with_reducible refine bS ?_ (by first | omega | (simp; done) | (simp; omega)))))).size) (Nat.le_refl _))))
  clear hB hl hg
  go_wp2_with fail
  refine (single_any 3 _).mono ?_
  rintro r w4 ⟨rfl, hb⟩
  dsimp only [sgl, En.row]
  have hB : Below w3.heap.size w3 w4 := (by repeat (first | (with_reducible exact bR _) | (with_reducible refine bT ?_ (by assumption)) | (with_reducible apply bA) | (with_reducible apply bD) | (with_reducible apply bN) | (with_reducible refine bS ?_ (by first | omega | (simp; done) | (simp; omega)))))
  have HL4 := Lib.hid (HL3.out.below hB (Nat.le_refl _))
  have HB4 := Lib.hid (bT HB3.out hB)
  clear hb hB
  go_wp2_with fail
  have hB : ∀ W, Below w4.heap.size w4 W → Led W (w.heap.size + 1) w.heap.size 2 [sgl 7] := fun W h => HL4.out.below h (Nat.le_refl _)
  refine (ledAdd_any (w.heap.size + 1) w.heap.size 2 [sgl 7] (sgl 3) _ (hB _ (by repeat (first | (with_reducible exact bR _) | (with_reducible refine bT ?_ (by assumption)) | (with_reducible apply bA) | (with_reducible apply bD) | (with_reducible apply bN) | (with_reducible refine bS ?_ (by first | omega | (simp; done) | (simp; omega))))))).mono ?_
  rw [a2]
  rintro r w5 ⟨rfl, hl, hg⟩
  have HL5 := Lib.hid hl
  have HB5 := Lib.hid (HB4.out.trans ((show Below w4.heap.size w4 _ from (by repeat (first | (with_reducible exact bR _) | (with_reducible refine bT ?_ (by assumption)) | (with_reducible apply bA) | (with_reducible apply bD) | (with_reducible apply bN) | (with_reducible refine bS ?_ (by first | omega | (simp; done) | (simp; omega)))))).mono HB4.out.size |>.trans (below_of_grown hg (Nat.le_trans HB4.out.size (show Below w4.heap.size w4 _ from (by repeat (first | (with_reducible exact bR _) | (with_reducible refine bT ?_ (by assumption)) | (with_reducible apply bA) | (with_reducible apply bD) | (with_reducible apply bN) | (with_reducible refine bS ?_ (by first | omega | (simp; done) | (simp; omega)))))).size) (Nat.le_refl _))))
  clear hB hl hg
  go_wp2_with fail
  refine (single_any 7 _).mono ?_
  rintro r w6 ⟨rfl, hb⟩
  dsimp only [sgl, En.row]
  have hB : Below w5.heap.size w5 w6 := (by repeat (first | (with_reducible exact bR _) | (with_reducible refine bT ?_ (by assumption)) | (with_reducible apply bA) | (with_reducible apply bD) | (with_reducible apply bN) | (with_reducible refine bS ?_ (by first | omega | (simp; done) | (simp; omega)))))
  have HL6 := Lib.hid (HL5.out.below hB (Nat.le_refl _))
  have HB6 := Lib.hid (bT HB5.out hB)
  clear hb hB
  go_wp2_with fail
  have hB : ∀ W, Below w6.heap.size w6 W → Led W (w.heap.size + 1) w.heap.size 2 [sgl 3, sgl 7] := fun W h => HL6.out.below h (Nat.le_refl _)
  refine (ledAdd_any (w.heap.size + 1) w.heap.size 2 [sgl 3, sgl 7] (sgl 7) _ (hB _ (by repeat (first | (with_reducible exact bR _) | (with_reducible refine bT ?_ (by assumption)) | (with_reducible apply bA) | (with_reducible apply bD) | (with_reducible apply bN) | (with_reducible refine bS ?_ (by first | omega | (simp; done) | (simp; omega))))))).mono ?_
  rw [a3]
  rintro r w7 ⟨rfl, hl, hg⟩
  have HL7 := Lib.hid hl
  have HB7 := Lib.hid (HB6.out.trans ((show Below w6.heap.size w6 _ from (by repeat (first | (with_reducible exact bR _) | (with_reducible refine bT ?_ (by assumption)) | (with_reducible apply bA) | (with_reducible apply bD) | (with_reducible apply bN) | (with_reducible refine bS ?_ (by first | omega | (simp; done) | (simp; omega)))))).mono HB6.out.size |>.trans (below_of_grown hg (Nat.le_trans HB6.out.size (show Below w6.heap.size w6 _ from (by repeat (first | (with_reducible exact bR _) | (with_reducible refine bT ?_ (by assumption)) | (with_reducible apply bA) | (with_reducible apply bD) | (with_reducible apply bN) | (with_reducible refine bS ?_ (by first | omega | (simp; done) | (simp; omega)))))).size) (Nat.le_refl _))))
  clear hB hl hg
  go_wp2_with fail
  refine (single_any 9 _).mono ?_
  rintro r w8 ⟨rfl, hb⟩
  dsimp only [sgl, En.row]
  have hB : Below w7.heap.size w7 w8 := (by repeat (first | (with_reducible exact bR _) | (with_reducible refine bT ?_ (by assumption)) | (with_reducible apply bA) | (with_reducible apply bD) | (with_reducible apply bN) | (with_reducible refine bS ?_ (by first | omega | (simp; done) | (simp; omega)))))
  have HL8 := Lib.hid (HL7.out.below hB (Nat.le_refl _))
  have HB8 := Lib.hid (bT HB7.out hB)
  clear hb hB
  go_wp2_with fail
  have hB : ∀ W, Below w8.heap.size w8 W → Led W (w.heap.size + 1) w.heap.size 2 [sgl 3, sgl 7] := fun W h => HL8.out.below h (Nat.le_refl _)
  refine (ledAdd_any (w.heap.size + 1) w.heap.size 2 [sgl 3, sgl 7] (sgl 9) _ (hB _ (by repeat (first | (with_reducible exact bR _) | (with_reducible refine bT ?_ (by assumption)) | (with_reducible apply bA) | (with_reducible apply bD) | (with_reducible apply bN) | (with_reducible refine bS ?_ (by first | omega | (simp; done) | (simp; omega))))))).mono ?_
  rw [a4]
  rintro r w9 ⟨rfl, hl, hg⟩
  have HL9 := Lib.hid hl
  have HB9 := Lib.hid (HB8.out.trans ((show Below w8.heap.size w8 _ from (by repeat (first | (with_reducible exact bR _) | (with_reducible refine bT ?_ (by assumption)) | (with_reducible apply bA) | (with_reducible apply bD) | (with_reducible apply bN) | (with_reducible refine bS ?_ (by first | omega | (simp; done) | (simp; omega)))))).mono HB8.out.size |>.trans (below_of_grown hg (Nat.le_trans HB8.out.size (show Below w8.heap.size w8 _ from (by repeat (first | (with_reducible exact bR _) | (with_reducible refine bT ?_ (by assumption)) | (with_reducible apply bA) | (with_reducible apply bD) | (with_reducible apply bN) | (with_reducible refine bS ?_ (by first | omega | (simp; done) | (simp; omega)))))).size) (Nat.le_refl _))))
  clear hB hl hg
  go_wp2_with fail
  refine (single_any 7 _).mono ?_
  rintro r w10 ⟨rfl, hb⟩
  dsimp only [sgl, En.row]
  have hB : Below w9.heap.size w9 w10 := (by repeat (first | (with_reducible exact bR _) | (with_reducible refine bT ?_ (by assumption)) | (with_reducible apply bA) | (with_reducible apply bD) | (with_reducible apply bN) | (with_reducible refine bS ?_ (by first | omega | (simp; done) | (simp; omega)))))
  have HL10 := Lib.hid (HL9.out.below hB (Nat.le_refl _))
  have HB10 := Lib.hid (bT HB9.out hB)
  clear hb hB
  go_wp2_with fail
  have hB : ∀ W, Below w10.heap.size w10 W → Led W (w.heap.size + 1) w.heap.size 2 [sgl 3, sgl 7] := fun W h => HL10.out.below h (Nat.le_refl _)
  refine (ledSet_any (w.heap.size + 1) w.heap.size 2 [sgl 3, sgl 7] (sglB) _ (hB _ (by repeat (first | (with_reducible exact bR _) | (with_reducible refine bT ?_ (by assumption)) | (with_reducible apply bA) | (with_reducible apply bD) | (with_reducible apply bN) | (with_reducible refine bS ?_ (by first | omega | (simp; done) | (simp; omega))))))).mono ?_
  rw [a5]
  rintro r w11 ⟨rfl, hl, hg⟩
  have HX11 := Lib.hid ((hg.block w10.heap.size (by simp) (fun e => by have h1 := HL10.out.lt; have h2 := Option.some.inj e; omega)).trans (heap_alloc_new w10 _))
  have HL11 := Lib.hid hl
  have HB11 := Lib.hid (HB10.out.trans ((show Below w10.heap.size w10 _ from (by repeat (first | (with_reducible exact bR _) | (with_reducible refine bT ?_ (by assumption)) | (with_reducible apply bA) | (with_reducible apply bD) | (with_reducible apply bN) | (with_reducible refine bS ?_ (by first | omega | (simp; done) | (simp; omega)))))).mono HB10.out.size |>.trans (below_of_grown hg (Nat.le_trans HB10.out.size (show Below w10.heap.size w10 _ from (by repeat (first | (with_reducible exact bR _) | (with_reducible refine bT ?_ (by assumption)) | (with_reducible apply bA) | (with_reducible apply bD) | (with_reducible apply bN) | (with_reducible refine bS ?_ (by first | omega | (simp; done) | (simp; omega)))))).size) (Nat.le_refl _))))
  clear hB hl hg
  go_wp2_with fail
  refine (single_any 9 _).mono ?_
  rintro r w12 ⟨rfl, hb⟩
  dsimp only [sgl, En.row]
  have hB : Below w11.heap.size w11 w12 := (by repeat (first | (with_reducible exact bR _) | (with_reducible refine bT ?_ (by assumption)) | (with_reducible apply bA) | (with_reducible apply bD) | (with_reducible apply bN) | (with_reducible refine bS ?_ (by first | omega | (simp; done) | (simp; omega)))))
  have HL12 := Lib.hid (HL11.out.below hB (Nat.le_refl _))
  have HB12 := Lib.hid (bT HB11.out hB)
  have HX12 := Lib.hid ((hB.block _ (Array.getElem?_eq_some_iff.1 HX11.out).1).trans HX11.out)
  clear hb hB
  go_wp2_with fail
  have hB : ∀ W, Below w12.heap.size w12 W → Led W (w.heap.size + 1) w.heap.size 2 [sgl 3, sglB] := fun W h => HL12.out.below h (Nat.le_refl _)
  refine (ledSet_any (w.heap.size + 1) w.heap.size 2 [sgl 3, sglB] (sgl 9) _ (hB _ (by repeat (first | (with_reducible exact bR _) | (with_reducible refine bT ?_ (by assumption)) | (with_reducible apply bA) | (with_reducible apply bD) | (with_reducible apply bN) | (with_reducible refine bS ?_ (by first | omega | (simp; done) | (simp; omega))))))).mono ?_
  rw [a6]
  rintro r w13 ⟨rfl, hl, hg⟩
  have HX13 := Lib.hid ((hg.block w10.heap.size (Array.getElem?_eq_some_iff.1 HX12.out).1 (fun e => by have h1 := HL10.out.lt; have h2 := Option.some.inj e; omega)).trans HX12.out)
  have HL13 := Lib.hid hl
  have HB13 := Lib.hid (HB12.out.trans ((show Below w12.heap.size w12 _ from (by repeat (first | (with_reducible exact bR _) | (with_reducible refine bT ?_ (by assumption)) | (with_reducible apply bA) | (with_reducible apply bD) | (with_reducible apply bN) | (with_reducible refine bS ?_ (by first | omega | (simp; done) | (simp; omega)))))).mono HB12.out.size |>.trans (below_of_grown hg (Nat.le_trans HB12.out.size (show Below w12.heap.size w12 _ from (by repeat (first | (with_reducible exact bR _) | (with_reducible refine bT ?_ (by assumption)) | (with_reducible apply bA) | (with_reducible apply bD) | (with_reducible apply bN) | (with_reducible refine bS ?_ (by first | omega | (simp; done) | (simp; omega)))))).size) (Nat.le_refl _))))
  clear hB hl hg
  go_wp2_with fail
  have hB : ∀ W, Below w13.heap.size w13 W → Led W (w.heap.size + 1) w.heap.size 2 [sgl 3, sglB] := fun W h => HL13.out.below h (Nat.le_refl _)
  refine (ledGet_any (w.heap.size + 1) w.heap.size 2 7 [sgl 3, sglB] _ (hB _ (by repeat (first | (with_reducible exact bR _) | (with_reducible refine bT ?_ (by assumption)) | (with_reducible apply bA) | (with_reducible apply bD) | (with_reducible apply bN) | (with_reducible refine bS ?_ (by first | omega | (simp; done) | (simp; omega)))))) (wf_of (by decide) (by decide)) (sglB) 0 a7).mono ?_
  clear hB
  rintro r w14 ⟨rfl, hb⟩
  dsimp only [sglB, zE]
  have hB : Below w13.heap.size w13 w14 := (by repeat (first | (with_reducible exact bR _) | (with_reducible refine bT ?_ (by assumption)) | (with_reducible apply bA) | (with_reducible apply bD) | (with_reducible apply bN) | (with_reducible refine bS ?_ (by first | omega | (simp; done) | (simp; omega)))))
  have HL14 := Lib.hid (HL13.out.below hB (Nat.le_refl _))
  have HB14 := Lib.hid (bT HB13.out hB)
  have HX14 := Lib.hid ((hB.block _ (Array.getElem?_eq_some_iff.1 HX13.out).1).trans HX13.out)
  clear hb hB
  go_wp2_with fail
  have hB : ∀ W, Below w14.heap.size w14 W → Led W (w.heap.size + 1) w.heap.size 2 [sgl 3, sglB] := fun W h => HL14.out.below h (Nat.le_refl _)
  refine (ledGet_any (w.heap.size + 1) w.heap.size 2 9 [sgl 3, sglB] _ (hB _ (by repeat (first | (with_reducible exact bR _) | (with_reducible refine bT ?_ (by assumption)) | (with_reducible apply bA) | (with_reducible apply bD) | (with_reducible apply bN) | (with_reducible refine bS ?_ (by first | omega | (simp; done) | (simp; omega)))))) (wf_of (by decide) (by decide)) (zE) 20 a8).mono ?_
  clear hB
  rintro r w15 ⟨rfl, hb⟩
  dsimp only [sglB, zE]
  have HY15 := Lib.hid ((hb.block w14.heap.size (by simp)).trans (heap_alloc_new w14 _))
  have hB : Below w14.heap.size w14 w15 := (by repeat (first | (with_reducible exact bR _) | (with_reducible refine bT ?_ (by assumption)) | (with_reducible apply bA) | (with_reducible apply bD) | (with_reducible apply bN) | (with_reducible refine bS ?_ (by first | omega | (simp; done) | (simp; omega)))))
  have HL15 := Lib.hid (HL14.out.below hB (Nat.le_refl _))
  have HB15 := Lib.hid (bT HB14.out hB)
  have HX15 := Lib.hid ((hB.block _ (Array.getElem?_eq_some_iff.1 HX14.out).1).trans HX14.out)
  clear hb hB
  go_wp2_with fail
  have hB : ∀ W, Below w15.heap.size w15 W → Led W (w.heap.size + 1) w.heap.size 2 [sgl 3, sglB] := fun W h => HL15.out.below h (Nat.le_refl _)
  refine (ledAll_any (w.heap.size + 1) w.heap.size 2 [sgl 3, sglB] _ (hB _ (by repeat (first | (with_reducible exact bR _) | (with_reducible refine bT ?_ (by assumption)) | (with_reducible apply bA) | (with_reducible apply bD) | (with_reducible apply bN) | (with_reducible refine bS ?_ (by first | omega | (simp; done) | (simp; omega))))))).mono ?_
  clear hB
  rintro r w16 ⟨A, cA, rfl, q1, q2, q3, hb, q5⟩
  have hB : Below w15.heap.size w15 w16 := (by repeat (first | (with_reducible exact bR _) | (with_reducible refine bT ?_ (by assumption)) | (with_reducible apply bA) | (with_reducible apply bD) | (with_reducible apply bN) | (with_reducible refine bS ?_ (by first | omega | (simp; done) | (simp; omega)))))
  have HL16 := Lib.hid (HL15.out.below hB (Nat.le_refl _))
  have HB16 := Lib.hid (bT HB15.out hB)
  have HX16 := Lib.hid ((hB.block _ (Array.getElem?_eq_some_iff.1 HX15.out).1).trans HX15.out)
  have HY16 := Lib.hid ((hB.block _ (Array.getElem?_eq_some_iff.1 HY15.out).1).trans HY15.out)
  clear hb hB
  have HR16 := Lib.hid q3
  have hA : ∀ a, A = some a → a.block ≠ w10.heap.size := fun a ha e => by have h1 := (Array.getElem?_eq_some_iff.1 HX15.out).1; have h2 := q5 a ha; simp at h2; omega
  have HA : Hid (∀ a, A = some a → w15.heap.size ≤ a.block) := Lib.hid (fun a ha => by have h2 := q5 a ha; simp at h2; omega)
  clear q3 q5
  go_wp2_with fail
  refine (ledNewNo_any 0 _ (.inl (by decide))).mono ?_
  rintro r w17 ⟨rfl, rfl⟩
  have hx0 := cell_of_row _ w10.heap.size 0 _ _ _ HX16.out
  have hx1 := cell_of_row _ w10.heap.size 1 _ _ _ HX16.out
  have hx2 := cell_of_row _ w10.heap.size 2 _ _ _ HX16.out
  have hx3 := cell_of_row _ w10.heap.size 3 _ _ _ HX16.out
  have hx4 := cell_of_row _ w10.heap.size 4 _ _ _ HX16.out
  have hx5 := cell_of_row _ w10.heap.size 5 _ _ _ HX16.out
  have hx6 := cell_of_row _ w10.heap.size 6 _ _ _ HX16.out
  have hx7 := cell_of_row _ w10.heap.size 7 _ _ _ HX16.out
  have hx8 := cell_of_row _ w10.heap.size 8 _ _ _ HX16.out
  have hx9 := cell_of_row _ w10.heap.size 9 _ _ _ HX16.out
  have hx10 := cell_of_row _ w10.heap.size 10 _ _ _ HX16.out
  have hx11 := cell_of_row _ w10.heap.size 11 _ _ _ HX16.out
  have hx12 := cell_of_row _ w10.heap.size 12 _ _ _ HX16.out
  have hx13 := cell_of_row _ w10.heap.size 13 _ _ _ HX16.out
  have hxf : w16.frozen? ⟨w10.heap.size, 11, none⟩ = false := by simp [World.frozen?, HX16.out]
  go_wp2_with fail
  obtain ⟨w17, hw17⟩ : ∃ w17, w16.setCell ⟨w10.heap.size, 11, none⟩ (.int .i64 2) = w17 := ⟨_, rfl⟩
  have hne : ∀ k, k ≠ w10.heap.size → w17.heap[k]? = w16.heap[k]? := fun k hk => by rw [← hw17]; exact Below.heap_setCell _ _ _ _ hk
  have hgt : w.heap.size + 1 < w10.heap.size := HL10.out.lt
  have HL17 := Lib.hid (HL16.out.keep (hne _ (by omega)) (hne _ (by omega)))
  have HX17 : Hid (w17.heap[w10.heap.size]? = some (.cells (sglB.row.toArray.setIfInBounds 11 (.int .i64 2)) 37 (0, 0))) := Lib.hid (by rw [← hw17]; exact led_rowset HX16.out 11 _)
  have hgy : w14.heap.size ≠ w10.heap.size := fun e => by have h1 := (Array.getElem?_eq_some_iff.1 HX14.out).1; omega
  have HY17 := Lib.hid ((hne w14.heap.size hgy).trans HY16.out)
  have HB17 : Hid (Below w.heap.size w w17) := Lib.hid (by rw [← hw17]; exact bS HB16.out (by omega))
  have HR17 : Hid (RdE w17 A [sgl 3, sglB]) := Lib.hid (by rw [← hw17]; exact HR16.out.setCell hA)
  rw [hw17]
  clear hw17 hne hxf hx0 hx1 hx2 hx3 hx4 hx5 hx6 hx7 hx8 hx9 hx10 hx11 hx12 hx13
  go_wp2_with fail
  have hB : ∀ W, Below w17.heap.size w17 W → Led W (w.heap.size + 1) w.heap.size 2 [sgl 3, sglB] := fun W h => HL17.out.below h (Nat.le_refl _)
  refine (ledSet_any (w.heap.size + 1) w.heap.size 2 [sgl 3, sglB] (sglC) _ (hB _ (by repeat (first | (with_reducible exact bR _) | (with_reducible refine bT ?_ (by assumption)) | (with_reducible apply bA) | (with_reducible apply bD) | (with_reducible apply bN) | (with_reducible refine bS ?_ (by first | omega | (simp; done) | (simp; omega))))))).mono ?_
  rw [a9]
  rintro r w18 ⟨rfl, hl, hg⟩
  have HX18 := Lib.hid ((hg.block w10.heap.size (Array.getElem?_eq_some_iff.1 HX17.out).1 (fun e => by have h1 := HL10.out.lt; have h2 := Option.some.inj e; omega)).trans HX17.out)
  have HY18 := Lib.hid ((hg.block w14.heap.size (Array.getElem?_eq_some_iff.1 HY17.out).1 (fun e => by have h1 := HL14.out.lt; have h2 := Option.some.inj e; omega)).trans HY17.out)
  have HR18 := Lib.hid (HR17.out.grown hg (fun a ha e => by have h1 := (Array.getElem?_eq_some_iff.1 HX15.out).1; have h2 := HA.out a ha; have h3 := Option.some.inj e; omega))
  have HL18 := Lib.hid hl
  have HB18 := Lib.hid (HB17.out.trans ((show Below w17.heap.size w17 _ from (by repeat (first | (with_reducible exact bR _) | (with_reducible refine bT ?_ (by assumption)) | (with_reducible apply bA) | (with_reducible apply bD) | (with_reducible apply bN) | (with_reducible refine bS ?_ (by first | omega | (simp; done) | (simp; omega)))))).mono HB17.out.size |>.trans (below_of_grown hg (Nat.le_trans HB17.out.size (show Below w17.heap.size w17 _ from (by repeat (first | (with_reducible exact bR _) | (with_reducible refine bT ?_ (by assumption)) | (with_reducible apply bA) | (with_reducible apply bD) | (with_reducible apply bN) | (with_reducible refine bS ?_ (by first | omega | (simp; done) | (simp; omega)))))).size) (Nat.le_refl _))))
  clear hB hl hg
  go_wp2_with fail
  refine (ledGet_nil 7 _).mono ?_
  rintro r w19 ⟨rfl, hb⟩
  dsimp only [zE, En.row]
  have HR19 := Lib.hid (HR18.out.below hb (Nat.le_refl _))
  have hB : Below w18.heap.size w18 w19 := (by repeat (first | (with_reducible exact bR _) | (with_reducible refine bT ?_ (by assumption)) | (with_reducible apply bA) | (with_reducible apply bD) | (with_reducible apply bN) | (with_reducible refine bS ?_ (by first | omega | (simp; done) | (simp; omega)))))
  have HL19 := Lib.hid (HL18.out.below hB (Nat.le_refl _))
  have HB19 := Lib.hid (bT HB18.out hB)
  have HX19 := Lib.hid ((hB.block _ (Array.getElem?_eq_some_iff.1 HX18.out).1).trans HX18.out)
  have HY19 := Lib.hid ((hB.block _ (Array.getElem?_eq_some_iff.1 HY18.out).1).trans HY18.out)
  clear hb hB
  go_wp2_with fail
  obtain ⟨W0, hW0⟩ : ∃ W0, w19.alloc (.cells #[.int .i64 0, .int .i64 0, .int .i64 0, .int .i64 0, .int .i64 0, .int .i64 0, .int .i64 0, .int .i64 0, .int .i64 0, .int .i64 0, .int .i64 0, .int .i64 0, .int .i64 0, .bool false] 37) = W0 := ⟨_, rfl⟩
  have hb : Below w19.heap.size w19 W0 := by rw [← hW0]; exact bel1 _ _
  have HL20 := Lib.hid (HL19.out.below hb (Nat.le_refl _))
  have HB20 := Lib.hid (bT HB19.out hb)
  have HX20 := Lib.hid ((hb.block _ (Array.getElem?_eq_some_iff.1 HX19.out).1).trans HX19.out)
  have HY20 := Lib.hid ((hb.block _ (Array.getElem?_eq_some_iff.1 HY19.out).1).trans HY19.out)
  obtain ⟨ad, hAd, _⟩ := HR19.out.at_ (j := 0) (by decide)
  have HR20 : Hid (RdE W0 (some ad) [sgl 3, sglB]) := Lib.hid (by rw [← hAd]; exact HR19.out.below hb (Nat.le_refl _))
  rw [hW0, hAd]
  have hcA := q1
  clear hb hW0 hAd HA hA
  have hS := fun w9 (h : Below W0.heap.size W0 w9) => kept_s HX20 HY20 HR20 h
  refine wp_region_held_drew (S := fun w9 => Below W0.heap.size W0 w9 ∧ w9.cell? ⟨w10.heap.size, 0, none⟩ = some (.int .i64 7) ∧ w9.cell? ⟨w10.heap.size, 1, none⟩ = some (.int .i64 1) ∧ w9.cell? ⟨w10.heap.size, 2, none⟩ = some (.int .i64 1) ∧ w9.cell? ⟨w10.heap.size, 3, none⟩ = some (.int .i64 2) ∧ w9.cell? ⟨w10.heap.size, 4, none⟩ = some (.int .i64 1) ∧ w9.cell? ⟨w10.heap.size, 5, none⟩ = some (.int .i64 0) ∧ w9.cell? ⟨w10.heap.size, 6, none⟩ = some (.int .i64 0) ∧ w9.cell? ⟨w10.heap.size, 7, none⟩ = some (.int .i64 0) ∧ w9.cell? ⟨w10.heap.size, 8, none⟩ = some (.int .i64 1) ∧ w9.cell? ⟨w10.heap.size, 9, none⟩ = some (.int .i64 1) ∧ w9.cell? ⟨w10.heap.size, 10, none⟩ = some (.int .i64 0) ∧ w9.cell? ⟨w10.heap.size, 11, none⟩ = some (.int .i64 2) ∧ w9.cell? ⟨w10.heap.size, 12, none⟩ = some (.int .i64 0) ∧ w9.cell? ⟨w10.heap.size, 13, none⟩ = some (.bool true) ∧ w9.cell? ⟨w14.heap.size, 0, none⟩ = some (.int .i64 7) ∧ w9.cell? ⟨w14.heap.size, 1, none⟩ = some (.int .i64 1) ∧ w9.cell? ⟨w14.heap.size, 2, none⟩ = some (.int .i64 1) ∧ w9.cell? ⟨w14.heap.size, 3, none⟩ = some (.int .i64 2) ∧ w9.cell? ⟨w14.heap.size, 4, none⟩ = some (.int .i64 1) ∧ w9.cell? ⟨w14.heap.size, 5, none⟩ = some (.int .i64 0) ∧ w9.cell? ⟨w14.heap.size, 6, none⟩ = some (.int .i64 0) ∧ w9.cell? ⟨w14.heap.size, 7, none⟩ = some (.int .i64 0) ∧ w9.cell? ⟨w14.heap.size, 8, none⟩ = some (.int .i64 1) ∧ w9.cell? ⟨w14.heap.size, 9, none⟩ = some (.int .i64 1) ∧ w9.cell? ⟨w14.heap.size, 10, none⟩ = some (.int .i64 0) ∧ w9.cell? ⟨w14.heap.size, 11, none⟩ = some (.int .i64 1) ∧ w9.cell? ⟨w14.heap.size, 12, none⟩ = some (.int .i64 0) ∧ w9.cell? ⟨w14.heap.size, 13, none⟩ = some (.bool true) ∧ w9.cell? ad = some (.int .i64 3) ∧ w9.cell? ⟨ad.block, ad.off + 14, none⟩ = some (.int .i64 7) ∧ w9.cell? ⟨ad.block, ad.off + 14 + 1, none⟩ = some (.int .i64 1) ∧ w9.cell? ⟨ad.block, ad.off + 14 + 2, none⟩ = some (.int .i64 1) ∧ w9.cell? ⟨ad.block, ad.off + 14 + 3, none⟩ = some (.int .i64 2) ∧ w9.cell? ⟨ad.block, ad.off + 14 + 4, none⟩ = some (.int .i64 1) ∧ w9.cell? ⟨ad.block, ad.off + 14 + 5, none⟩ = some (.int .i64 0) ∧ w9.cell? ⟨ad.block, ad.off + 14 + 6, none⟩ = some (.int .i64 0) ∧ w9.cell? ⟨ad.block, ad.off + 14 + 7, none⟩ = some (.int .i64 0) ∧ w9.cell? ⟨ad.block, ad.off + 14 + 8, none⟩ = some (.int .i64 1) ∧ w9.cell? ⟨ad.block, ad.off + 14 + 9, none⟩ = some (.int .i64 1) ∧ w9.cell? ⟨ad.block, ad.off + 14 + 10, none⟩ = some (.int .i64 0) ∧ w9.cell? ⟨ad.block, ad.off + 14 + 11, none⟩ = some (.int .i64 1) ∧ w9.cell? ⟨ad.block, ad.off + 14 + 12, none⟩ = some (.int .i64 0) ∧ w9.cell? ⟨ad.block, ad.off + 14 + 13, none⟩ = some (.bool true)) (by kernel_rfl) (hS _ (bD (bR W0))) (fun hHeld => ?_)
  refine wpAnyH_take (i := 0) (oi := ?_) (v := ?_) ?hiu1 (by as_aux_lemma => kernel_rfl) (by as_aux_lemma => kernel_rfl) (by as_aux_lemma => kernel_rfl) ?hQu1 (Or.inl ⟨?hwu1, ?hyu1⟩) hHeld ?restu1
  case hiu1 => simp only [List.getElem?_toArray, List.getElem?_cons_zero, List.getElem?_cons_succ]; rfl
  case hwu1 => rfl
  case hyu1 => (intro w9 hSw; (try dsimp only at hSw); go_simp; (try with_reducible rfl))
  case hQu1 => exact fun _ _ _ h => h
  (try simp only [Act.put, List.setIfInBounds_toArray, List.set_cons_zero, List.set_cons_succ])
  refine wpAnyH_take (i := 1) (oi := ?_) (v := ?_) ?hiu2 (by as_aux_lemma => kernel_rfl) (by as_aux_lemma => kernel_rfl) (by as_aux_lemma => kernel_rfl) ?hQu2 (Or.inl ⟨?hwu2, ?hyu2⟩) hHeld ?restu2
  case hiu2 => simp only [List.getElem?_toArray, List.getElem?_cons_zero, List.getElem?_cons_succ]; rfl
  case hwu2 => rfl
  case hyu2 => (intro w9 hSw; (try dsimp only at hSw); go_simp; (try with_reducible rfl))
  case hQu2 => exact fun _ _ _ h => h
  (try simp only [Act.put, List.setIfInBounds_toArray, List.set_cons_zero, List.set_cons_succ])
  refine wpAnyH_take (i := 2) (oi := ?_) (v := ?_) ?hiu3 (by as_aux_lemma => kernel_rfl) (by as_aux_lemma => kernel_rfl) (by as_aux_lemma => kernel_rfl) ?hQu3 (Or.inl ⟨?hwu3, ?hyu3⟩) hHeld ?restu3
  case hiu3 => simp only [List.getElem?_toArray, List.getElem?_cons_zero, List.getElem?_cons_succ]; rfl
  case hwu3 => rfl
  case hyu3 => (intro w9 hSw; (try dsimp only at hSw); go_simp; (try with_reducible rfl))
  case hQu3 => exact fun _ _ _ h => h
  (try simp only [Act.put, List.setIfInBounds_toArray, List.set_cons_zero, List.set_cons_succ])
  refine wpAnyH_take (i := 3) (oi := ?_) (v := ?_) ?hiu4 (by as_aux_lemma => kernel_rfl) (by as_aux_lemma => kernel_rfl) (by as_aux_lemma => kernel_rfl) ?hQu4 (Or.inl ⟨?hwu4, ?hyu4⟩) hHeld ?restu4
  case hiu4 => simp only [List.getElem?_toArray, List.getElem?_cons_zero, List.getElem?_cons_succ]; rfl
  case hwu4 => rfl
  case hyu4 => (intro w9 hSw; (try dsimp only at hSw); go_simp; (try with_reducible rfl))
  case hQu4 => exact fun _ _ _ h => h
  (try simp only [Act.put, List.setIfInBounds_toArray, List.set_cons_zero, List.set_cons_succ])
  refine wpAnyH_take (i := 4) (oi := ?_) (v := ?_) ?hiu5 (by as_aux_lemma => kernel_rfl) (by as_aux_lemma => kernel_rfl) (by as_aux_lemma => kernel_rfl) ?hQu5 (Or.inl ⟨?hwu5, ?hyu5⟩) hHeld ?restu5
  case hiu5 => simp only [List.getElem?_toArray, List.getElem?_cons_zero, List.getElem?_cons_succ]; rfl
  case hwu5 => rfl
  case hyu5 => (intro w9 hSw; (try dsimp only at hSw); go_simp; (try with_reducible rfl))
  case hQu5 => exact fun _ _ _ h => h
  (try simp only [Act.put, List.setIfInBounds_toArray, List.set_cons_zero, List.set_cons_succ])
  refine wpAnyH_take (i := 5) (oi := ?_) (v := ?_) ?hiu6 (by as_aux_lemma => kernel_rfl) (by as_aux_lemma => kernel_rfl) (by as_aux_lemma => kernel_rfl) ?hQu6 (Or.inl ⟨?hwu6, ?hyu6⟩) hHeld ?restu6
  case hiu6 => simp only [List.getElem?_toArray, List.getElem?_cons_zero, List.getElem?_cons_succ]; rfl
  case hwu6 => rfl
  case hyu6 => (intro w9 hSw; (try dsimp only at hSw); go_simp; (try with_reducible rfl))
  case hQu6 => exact fun _ _ _ h => h
  (try simp only [Act.put, List.setIfInBounds_toArray, List.set_cons_zero, List.set_cons_succ])
  refine wpAnyH_take (i := 6) (oi := ?_) (v := ?_) ?hiu7 (by as_aux_lemma => kernel_rfl) (by as_aux_lemma => kernel_rfl) (by as_aux_lemma => kernel_rfl) ?hQu7 (Or.inl ⟨?hwu7, ?hyu7⟩) hHeld ?restu7
  case hiu7 => simp only [List.getElem?_toArray, List.getElem?_cons_zero, List.getElem?_cons_succ]; rfl
  case hwu7 => rfl
  case hyu7 => (intro w9 hSw; (try dsimp only at hSw); go_simp; (try with_reducible rfl))
  case hQu7 => exact fun _ _ _ h => h
  (try simp only [Act.put, List.setIfInBounds_toArray, List.set_cons_zero, List.set_cons_succ])
  refine wpAnyH_take (i := 7) (oi := ?_) (v := ?_) ?hiu8 (by as_aux_lemma => kernel_rfl) (by as_aux_lemma => kernel_rfl) (by as_aux_lemma => kernel_rfl) ?hQu8 (Or.inl ⟨?hwu8, ?hyu8⟩) hHeld ?restu8
  case hiu8 => simp only [List.getElem?_toArray, List.getElem?_cons_zero, List.getElem?_cons_succ]; rfl
  case hwu8 => rfl
  case hyu8 => (intro w9 hSw; (try dsimp only at hSw); go_simp; (try with_reducible rfl))
  case hQu8 => exact fun _ _ _ h => h
  (try simp only [Act.put, List.setIfInBounds_toArray, List.set_cons_zero, List.set_cons_succ])
  refine wpAnyH_take (i := 8) (oi := ?_) (v := ?_) ?hiu9 (by as_aux_lemma => kernel_rfl) (by as_aux_lemma => kernel_rfl) (by as_aux_lemma => kernel_rfl) ?hQu9 (Or.inl ⟨?hwu9, ?hyu9⟩) hHeld ?restu9
  case hiu9 => simp only [List.getElem?_toArray, List.getElem?_cons_zero, List.getElem?_cons_succ]; rfl
  case hwu9 => rfl
  case hyu9 => (intro w9 hSw; (try dsimp only at hSw); go_simp; (try with_reducible rfl))
  case hQu9 => exact fun _ _ _ h => h
  (try simp only [Act.put, List.setIfInBounds_toArray, List.set_cons_zero, List.set_cons_succ])
  refine wpAnyH_take (i := 9) (oi := ?_) (v := ?_) ?hiu10 (by as_aux_lemma => kernel_rfl) (by as_aux_lemma => kernel_rfl) (by as_aux_lemma => kernel_rfl) ?hQu10 (Or.inl ⟨?hwu10, ?hyu10⟩) hHeld ?restu10
  case hiu10 => simp only [List.getElem?_toArray, List.getElem?_cons_zero, List.getElem?_cons_succ]; rfl
  case hwu10 => rfl
  case hyu10 => (intro w9 hSw; (try dsimp only at hSw); go_simp; (try with_reducible rfl))
  case hQu10 => exact fun _ _ _ h => h
  (try simp only [Act.put, List.setIfInBounds_toArray, List.set_cons_zero, List.set_cons_succ])
  refine wpAnyH_take (i := 10) (oi := ?_) (v := ?_) ?hiu11 (by as_aux_lemma => kernel_rfl) (by as_aux_lemma => kernel_rfl) (by as_aux_lemma => kernel_rfl) ?hQu11 (Or.inl ⟨?hwu11, ?hyu11⟩) hHeld ?restu11
  case hiu11 => simp only [List.getElem?_toArray, List.getElem?_cons_zero, List.getElem?_cons_succ]; rfl
  case hwu11 => rfl
  case hyu11 => (intro w9 hSw; (try dsimp only at hSw); go_simp; (try with_reducible rfl))
  case hQu11 => exact fun _ _ _ h => h
  (try simp only [Act.put, List.setIfInBounds_toArray, List.set_cons_zero, List.set_cons_succ])
  refine wpAnyH_take (i := 11) (oi := ?_) (v := ?_) ?hiu12 (by as_aux_lemma => kernel_rfl) (by as_aux_lemma => kernel_rfl) (by as_aux_lemma => kernel_rfl) ?hQu12 (Or.inl ⟨?hwu12, ?hyu12⟩) hHeld ?restu12
  case hiu12 => simp only [List.getElem?_toArray, List.getElem?_cons_zero, List.getElem?_cons_succ]; rfl
  case hwu12 => rfl
  case hyu12 => (intro w9 hSw; (try dsimp only at hSw); go_simp; (try with_reducible rfl))
  case hQu12 => exact fun _ _ _ h => h
  (try simp only [Act.put, List.setIfInBounds_toArray, List.set_cons_zero, List.set_cons_succ])
  refine wpAnyH_take (i := 12) (oi := ?_) (v := ?_) ?hiu13 (by as_aux_lemma => kernel_rfl) (by as_aux_lemma => kernel_rfl) (by as_aux_lemma => kernel_rfl) ?hQu13 (Or.inl ⟨?hwu13, ?hyu13⟩) hHeld ?restu13
  case hiu13 => simp only [List.getElem?_toArray, List.getElem?_cons_zero, List.getElem?_cons_succ]; rfl
  case hwu13 => rfl
  case hyu13 => (intro w9 hSw; (try dsimp only at hSw); go_simp; (try with_reducible rfl))
  case hQu13 => exact fun _ _ _ h => h
  (try simp only [Act.put, List.setIfInBounds_toArray, List.set_cons_zero, List.set_cons_succ])
  refine wpAnyH_take (i := 13) (oi := ?_) (v := ?_) ?hiu14 (by as_aux_lemma => kernel_rfl) (by as_aux_lemma => kernel_rfl) (by as_aux_lemma => kernel_rfl) ?hQu14 (Or.inl ⟨?hwu14, ?hyu14⟩) hHeld ?restu14
  case hiu14 => simp only [List.getElem?_toArray, List.getElem?_cons_zero, List.getElem?_cons_succ]; rfl
  case hwu14 => rfl
  case hyu14 => (intro w9 hSw; (try dsimp only at hSw); go_simp; (try with_reducible rfl))
  case hQu14 => exact fun _ _ _ h => h
  (try simp only [Act.put, List.setIfInBounds_toArray, List.set_cons_zero, List.set_cons_succ])
  refine wpAnyH_take (i := 14) (oi := ?_) (v := ?_) ?hiu15 (by as_aux_lemma => kernel_rfl) (by as_aux_lemma => kernel_rfl) (by as_aux_lemma => kernel_rfl) ?hQu15 (Or.inl ⟨?hwu15, ?hyu15⟩) hHeld ?restu15
  case hiu15 => simp only [List.getElem?_toArray, List.getElem?_cons_zero, List.getElem?_cons_succ]; rfl
  case hwu15 => rfl
  case hyu15 => (intro w9 hSw; (try dsimp only at hSw); go_simp; (try with_reducible rfl))
  case hQu15 => exact fun _ _ _ h => h
  (try simp only [Act.put, List.setIfInBounds_toArray, List.set_cons_zero, List.set_cons_succ])
  refine wpAnyH_take (i := 15) (oi := ?_) (v := ?_) ?hiu16 (by as_aux_lemma => kernel_rfl) (by as_aux_lemma => kernel_rfl) (by as_aux_lemma => kernel_rfl) ?hQu16 (Or.inl ⟨?hwu16, ?hyu16⟩) hHeld ?restu16
  case hiu16 => simp only [List.getElem?_toArray, List.getElem?_cons_zero, List.getElem?_cons_succ]; rfl
  case hwu16 => rfl
  case hyu16 => (intro w9 hSw; (try dsimp only at hSw); go_simp; (try with_reducible rfl))
  case hQu16 => exact fun _ _ _ h => h
  (try simp only [Act.put, List.setIfInBounds_toArray, List.set_cons_zero, List.set_cons_succ])
  refine wpAnyH_take (i := 16) (oi := ?_) (v := ?_) ?hiu17 (by as_aux_lemma => kernel_rfl) (by as_aux_lemma => kernel_rfl) (by as_aux_lemma => kernel_rfl) ?hQu17 (Or.inl ⟨?hwu17, ?hyu17⟩) hHeld ?restu17
  case hiu17 => simp only [List.getElem?_toArray, List.getElem?_cons_zero, List.getElem?_cons_succ]; rfl
  case hwu17 => rfl
  case hyu17 => (intro w9 hSw; (try dsimp only at hSw); go_simp; (try with_reducible rfl))
  case hQu17 => exact fun _ _ _ h => h
  (try simp only [Act.put, List.setIfInBounds_toArray, List.set_cons_zero, List.set_cons_succ])
  refine wpAnyH_take (i := 17) (oi := ?_) (v := ?_) ?hiu18 (by as_aux_lemma => kernel_rfl) (by as_aux_lemma => kernel_rfl) (by as_aux_lemma => kernel_rfl) ?hQu18 (Or.inl ⟨?hwu18, ?hyu18⟩) hHeld ?restu18
  case hiu18 => simp only [List.getElem?_toArray, List.getElem?_cons_zero, List.getElem?_cons_succ]; rfl
  case hwu18 => rfl
  case hyu18 => (intro w9 hSw; (try dsimp only at hSw); go_simp; (try with_reducible rfl))
  case hQu18 => exact fun _ _ _ h => h
  (try simp only [Act.put, List.setIfInBounds_toArray, List.set_cons_zero, List.set_cons_succ])
  refine wpAnyH_take (i := 18) (oi := ?_) (v := ?_) ?hiu19 (by as_aux_lemma => kernel_rfl) (by as_aux_lemma => kernel_rfl) (by as_aux_lemma => kernel_rfl) ?hQu19 (Or.inl ⟨?hwu19, ?hyu19⟩) hHeld ?restu19
  case hiu19 => simp only [List.getElem?_toArray, List.getElem?_cons_zero, List.getElem?_cons_succ]; rfl
  case hwu19 => rfl
  case hyu19 => (intro w9 hSw; (try dsimp only at hSw); go_simp; (try with_reducible rfl))
  case hQu19 => exact fun _ _ _ h => h
  (try simp only [Act.put, List.setIfInBounds_toArray, List.set_cons_zero, List.set_cons_succ])
  refine wpAnyH_take (i := 19) (oi := ?_) (v := ?_) ?hiu20 (by as_aux_lemma => kernel_rfl) (by as_aux_lemma => kernel_rfl) (by as_aux_lemma => kernel_rfl) ?hQu20 (Or.inl ⟨?hwu20, ?hyu20⟩) hHeld ?restu20
  case hiu20 => simp only [List.getElem?_toArray, List.getElem?_cons_zero, List.getElem?_cons_succ]; rfl
  case hwu20 => rfl
  case hyu20 => (intro w9 hSw; (try dsimp only at hSw); go_simp; (try with_reducible rfl))
  case hQu20 => exact fun _ _ _ h => h
  (try simp only [Act.put, List.setIfInBounds_toArray, List.set_cons_zero, List.set_cons_succ])
  refine wpAnyH_take (i := 20) (oi := ?_) (v := ?_) ?hiu21 (by as_aux_lemma => kernel_rfl) (by as_aux_lemma => kernel_rfl) (by as_aux_lemma => kernel_rfl) ?hQu21 (Or.inl ⟨?hwu21, ?hyu21⟩) hHeld ?restu21
  case hiu21 => simp only [List.getElem?_toArray, List.getElem?_cons_zero, List.getElem?_cons_succ]; rfl
  case hwu21 => rfl
  case hyu21 => (intro w9 hSw; (try dsimp only at hSw); go_simp; (try with_reducible rfl))
  case hQu21 => exact fun _ _ _ h => h
  (try simp only [Act.put, List.setIfInBounds_toArray, List.set_cons_zero, List.set_cons_succ])
  refine wpAnyH_take (i := 21) (oi := ?_) (v := ?_) ?hiu22 (by as_aux_lemma => kernel_rfl) (by as_aux_lemma => kernel_rfl) (by as_aux_lemma => kernel_rfl) ?hQu22 (Or.inl ⟨?hwu22, ?hyu22⟩) hHeld ?restu22
  case hiu22 => simp only [List.getElem?_toArray, List.getElem?_cons_zero, List.getElem?_cons_succ]; rfl
  case hwu22 => rfl
  case hyu22 => (intro w9 hSw; (try dsimp only at hSw); go_simp; (try with_reducible rfl))
  case hQu22 => exact fun _ _ _ h => h
  (try simp only [Act.put, List.setIfInBounds_toArray, List.set_cons_zero, List.set_cons_succ])
  refine wpAnyH_take (i := 22) (oi := ?_) (v := ?_) ?hiu23 (by as_aux_lemma => kernel_rfl) (by as_aux_lemma => kernel_rfl) (by as_aux_lemma => kernel_rfl) ?hQu23 (Or.inl ⟨?hwu23, ?hyu23⟩) hHeld ?restu23
  case hiu23 => simp only [List.getElem?_toArray, List.getElem?_cons_zero, List.getElem?_cons_succ]; rfl
  case hwu23 => rfl
  case hyu23 => (intro w9 hSw; (try dsimp only at hSw); go_simp; (try with_reducible rfl))
  case hQu23 => exact fun _ _ _ h => h
  (try simp only [Act.put, List.setIfInBounds_toArray, List.set_cons_zero, List.set_cons_succ])
  refine wpAnyH_take (i := 23) (oi := ?_) (v := ?_) ?hiu24 (by as_aux_lemma => kernel_rfl) (by as_aux_lemma => kernel_rfl) (by as_aux_lemma => kernel_rfl) ?hQu24 (Or.inl ⟨?hwu24, ?hyu24⟩) hHeld ?restu24
  case hiu24 => simp only [List.getElem?_toArray, List.getElem?_cons_zero, List.getElem?_cons_succ]; rfl
  case hwu24 => rfl
  case hyu24 => (intro w9 hSw; (try dsimp only at hSw); go_simp; (try with_reducible rfl))
  case hQu24 => exact fun _ _ _ h => h
  (try simp only [Act.put, List.setIfInBounds_toArray, List.set_cons_zero, List.set_cons_succ])
  refine wpAnyH_take (i := 24) (oi := ?_) (v := ?_) ?hiu25 (by as_aux_lemma => kernel_rfl) (by as_aux_lemma => kernel_rfl) (by as_aux_lemma => kernel_rfl) ?hQu25 (Or.inl ⟨?hwu25, ?hyu25⟩) hHeld ?restu25
  case hiu25 => simp only [List.getElem?_toArray, List.getElem?_cons_zero, List.getElem?_cons_succ]; rfl
  case hwu25 => rfl
  case hyu25 => (intro w9 hSw; (try dsimp only at hSw); go_simp; (try with_reducible rfl))
  case hQu25 => exact fun _ _ _ h => h
  (try simp only [Act.put, List.setIfInBounds_toArray, List.set_cons_zero, List.set_cons_succ])
  refine wpAnyH_take (i := 25) (oi := ?_) (v := ?_) ?hiu26 (by as_aux_lemma => kernel_rfl) (by as_aux_lemma => kernel_rfl) (by as_aux_lemma => kernel_rfl) ?hQu26 (Or.inl ⟨?hwu26, ?hyu26⟩) hHeld ?restu26
  case hiu26 => simp only [List.getElem?_toArray, List.getElem?_cons_zero, List.getElem?_cons_succ]; rfl
  case hwu26 => rfl
  case hyu26 => (intro w9 hSw; (try dsimp only at hSw); go_simp; (try with_reducible rfl))
  case hQu26 => exact fun _ _ _ h => h
  (try simp only [Act.put, List.setIfInBounds_toArray, List.set_cons_zero, List.set_cons_succ])
  refine wpAnyH_take (i := 26) (oi := ?_) (v := ?_) ?hiu27 (by as_aux_lemma => kernel_rfl) (by as_aux_lemma => kernel_rfl) (by as_aux_lemma => kernel_rfl) ?hQu27 (Or.inl ⟨?hwu27, ?hyu27⟩) hHeld ?restu27
  case hiu27 => simp only [List.getElem?_toArray, List.getElem?_cons_zero, List.getElem?_cons_succ]; rfl
  case hwu27 => rfl
  case hyu27 => (intro w9 hSw; (try dsimp only at hSw); go_simp; (try with_reducible rfl))
  case hQu27 => exact fun _ _ _ h => h
  (try simp only [Act.put, List.setIfInBounds_toArray, List.set_cons_zero, List.set_cons_succ])
  refine wpAnyH_take (i := 27) (oi := ?_) (v := ?_) ?hiu28 (by as_aux_lemma => kernel_rfl) (by as_aux_lemma => kernel_rfl) (by as_aux_lemma => kernel_rfl) ?hQu28 (Or.inl ⟨?hwu28, ?hyu28⟩) hHeld ?restu28
  case hiu28 => simp only [List.getElem?_toArray, List.getElem?_cons_zero, List.getElem?_cons_succ]; rfl
  case hwu28 => rfl
  case hyu28 => (intro w9 hSw; (try dsimp only at hSw); go_simp; (try with_reducible rfl))
  case hQu28 => exact fun _ _ _ h => h
  (try simp only [Act.put, List.setIfInBounds_toArray, List.set_cons_zero, List.set_cons_succ])
  refine wpAnyH_take (i := 28) (oi := ?_) (v := ?_) ?hiu29 (by as_aux_lemma => kernel_rfl) (by as_aux_lemma => kernel_rfl) (by as_aux_lemma => kernel_rfl) ?hQu29 (Or.inl ⟨?hwu29, ?hyu29⟩) hHeld ?restu29
  case hiu29 => simp only [List.getElem?_toArray, List.getElem?_cons_zero, List.getElem?_cons_succ]; rfl
  case hwu29 => rfl
  case hyu29 => (intro w9 hSw; (try dsimp only at hSw); go_simp; (try with_reducible rfl))
  case hQu29 => exact fun _ _ _ h => h
  (try simp only [Act.put, List.setIfInBounds_toArray, List.set_cons_zero, List.set_cons_succ])
  refine wpAnyH_take (i := 29) (oi := ?_) (v := ?_) ?hiu30 (by as_aux_lemma => kernel_rfl) (by as_aux_lemma => kernel_rfl) (by as_aux_lemma => kernel_rfl) ?hQu30 (Or.inl ⟨?hwu30, ?hyu30⟩) hHeld ?restu30
  case hiu30 => simp only [List.getElem?_toArray, List.getElem?_cons_zero, List.getElem?_cons_succ]; rfl
  case hwu30 => rfl
  case hyu30 => (intro w9 hSw; (try dsimp only at hSw); go_simp; (try with_reducible rfl))
  case hQu30 => exact fun _ _ _ h => h
  (try simp only [Act.put, List.setIfInBounds_toArray, List.set_cons_zero, List.set_cons_succ])
  refine wpAnyH_take (i := 30) (oi := ?_) (v := ?_) ?hiu31 (by as_aux_lemma => kernel_rfl) (by as_aux_lemma => kernel_rfl) (by as_aux_lemma => kernel_rfl) ?hQu31 (Or.inl ⟨?hwu31, ?hyu31⟩) hHeld ?restu31
  case hiu31 => simp only [List.getElem?_toArray, List.getElem?_cons_zero, List.getElem?_cons_succ]; rfl
  case hwu31 => rfl
  case hyu31 => (intro w9 hSw; (try dsimp only at hSw); go_simp; (try with_reducible rfl))
  case hQu31 => exact fun _ _ _ h => h
  (try simp only [Act.put, List.setIfInBounds_toArray, List.set_cons_zero, List.set_cons_succ])
  refine wpAnyH_take (i := 31) (oi := ?_) (v := ?_) ?hiu32 (by as_aux_lemma => kernel_rfl) (by as_aux_lemma => kernel_rfl) (by as_aux_lemma => kernel_rfl) ?hQu32 (Or.inl ⟨?hwu32, ?hyu32⟩) hHeld ?restu32
  case hiu32 => simp only [List.getElem?_toArray, List.getElem?_cons_zero, List.getElem?_cons_succ]; rfl
  case hwu32 => rfl
  case hyu32 => (intro w9 hSw; (try dsimp only at hSw); go_simp; (try with_reducible rfl))
  case hQu32 => exact fun _ _ _ h => h
  (try simp only [Act.put, List.setIfInBounds_toArray, List.set_cons_zero, List.set_cons_succ])
  refine wpAnyH_take (i := 32) (oi := ?_) (v := ?_) ?hiu33 (by as_aux_lemma => kernel_rfl) (by as_aux_lemma => kernel_rfl) (by as_aux_lemma => kernel_rfl) ?hQu33 (Or.inl ⟨?hwu33, ?hyu33⟩) hHeld ?restu33
  case hiu33 => simp only [List.getElem?_toArray, List.getElem?_cons_zero, List.getElem?_cons_succ]; rfl
  case hwu33 => rfl
  case hyu33 => (intro w9 hSw; (try dsimp only at hSw); go_simp; (try with_reducible rfl))
  case hQu33 => exact fun _ _ _ h => h
  (try simp only [Act.put, List.setIfInBounds_toArray, List.set_cons_zero, List.set_cons_succ])
  refine wpAnyH_take (i := 33) (oi := ?_) (v := ?_) ?hiu34 (by as_aux_lemma => kernel_rfl) (by as_aux_lemma => kernel_rfl) (by as_aux_lemma => kernel_rfl) ?hQu34 (Or.inl ⟨?hwu34, ?hyu34⟩) hHeld ?restu34
  case hiu34 => simp only [List.getElem?_toArray, List.getElem?_cons_zero, List.getElem?_cons_succ]; rfl
  case hwu34 => rfl
  case hyu34 => (intro w9 hSw; (try dsimp only at hSw); go_simp; (try with_reducible rfl))
  case hQu34 => exact fun _ _ _ h => h
  (try simp only [Act.put, List.setIfInBounds_toArray, List.set_cons_zero, List.set_cons_succ])
  refine wpAnyH_take (i := 34) (oi := ?_) (v := ?_) ?hiu35 (by as_aux_lemma => kernel_rfl) (by as_aux_lemma => kernel_rfl) (by as_aux_lemma => kernel_rfl) ?hQu35 (Or.inl ⟨?hwu35, ?hyu35⟩) hHeld ?restu35
  case hiu35 => simp only [List.getElem?_toArray, List.getElem?_cons_zero, List.getElem?_cons_succ]; rfl
  case hwu35 => rfl
  case hyu35 => (intro w9 hSw; (try dsimp only at hSw); go_simp; (try with_reducible rfl))
  case hQu35 => exact fun _ _ _ h => h
  (try simp only [Act.put, List.setIfInBounds_toArray, List.set_cons_zero, List.set_cons_succ])
  refine wpAnyH_take (i := 35) (oi := ?_) (v := ?_) ?hiu36 (by as_aux_lemma => kernel_rfl) (by as_aux_lemma => kernel_rfl) (by as_aux_lemma => kernel_rfl) ?hQu36 (Or.inl ⟨?hwu36, ?hyu36⟩) hHeld ?restu36
  case hiu36 => simp only [List.getElem?_toArray, List.getElem?_cons_zero, List.getElem?_cons_succ]; rfl
  case hwu36 => rfl
  case hyu36 => (intro w9 hSw; (try dsimp only at hSw); go_simp; (try with_reducible rfl))
  case hQu36 => exact fun _ _ _ h => h
  (try simp only [Act.put, List.setIfInBounds_toArray, List.set_cons_zero, List.set_cons_succ])
  refine wpAnyH_take (i := 36) (oi := ?_) (v := ?_) ?hiu37 (by as_aux_lemma => kernel_rfl) (by as_aux_lemma => kernel_rfl) (by as_aux_lemma => kernel_rfl) ?hQu37 (Or.inl ⟨?hwu37, ?hyu37⟩) hHeld ?restu37
  case hiu37 => simp only [List.getElem?_toArray, List.getElem?_cons_zero, List.getElem?_cons_succ]; rfl
  case hwu37 => rfl
  case hyu37 => (intro w9 hSw; (try dsimp only at hSw); go_simp; (try with_reducible rfl))
  case hQu37 => exact fun _ _ _ h => h
  (try simp only [Act.put, List.setIfInBounds_toArray, List.set_cons_zero, List.set_cons_succ])
  refine wpAnyH_take (i := 37) (oi := ?_) (v := ?_) ?hiu38 (by as_aux_lemma => kernel_rfl) (by as_aux_lemma => kernel_rfl) (by as_aux_lemma => kernel_rfl) ?hQu38 (Or.inl ⟨?hwu38, ?hyu38⟩) hHeld ?restu38
  case hiu38 => simp only [List.getElem?_toArray, List.getElem?_cons_zero, List.getElem?_cons_succ]; rfl
  case hwu38 => rfl
  case hyu38 => (intro w9 hSw; (try dsimp only at hSw); go_simp; (try with_reducible rfl))
  case hQu38 => exact fun _ _ _ h => h
  (try simp only [Act.put, List.setIfInBounds_toArray, List.set_cons_zero, List.set_cons_succ])
  refine wpAnyH_take (i := 38) (oi := ?_) (v := ?_) ?hiu39 (by as_aux_lemma => kernel_rfl) (by as_aux_lemma => kernel_rfl) (by as_aux_lemma => kernel_rfl) ?hQu39 (Or.inl ⟨?hwu39, ?hyu39⟩) hHeld ?restu39
  case hiu39 => simp only [List.getElem?_toArray, List.getElem?_cons_zero, List.getElem?_cons_succ]; rfl
  case hwu39 => rfl
  case hyu39 => (intro w9 hSw; (try dsimp only at hSw); go_simp; (try with_reducible rfl))
  case hQu39 => exact fun _ _ _ h => h
  (try simp only [Act.put, List.setIfInBounds_toArray, List.set_cons_zero, List.set_cons_succ])
  refine wpAnyH_take (i := 39) (oi := ?_) (v := ?_) ?hiu40 (by as_aux_lemma => kernel_rfl) (by as_aux_lemma => kernel_rfl) (by as_aux_lemma => kernel_rfl) ?hQu40 (Or.inl ⟨?hwu40, ?hyu40⟩) hHeld ?restu40
  case hiu40 => simp only [List.getElem?_toArray, List.getElem?_cons_zero, List.getElem?_cons_succ]; rfl
  case hwu40 => rfl
  case hyu40 => (intro w9 hSw; (try dsimp only at hSw); go_simp; (try with_reducible rfl))
  case hQu40 => exact fun _ _ _ h => h
  (try simp only [Act.put, List.setIfInBounds_toArray, List.set_cons_zero, List.set_cons_succ])
  refine wpAnyH_take (i := 40) (oi := ?_) (v := ?_) ?hiu41 (by as_aux_lemma => kernel_rfl) (by as_aux_lemma => kernel_rfl) (by as_aux_lemma => kernel_rfl) ?hQu41 (Or.inl ⟨?hwu41, ?hyu41⟩) hHeld ?restu41
  case hiu41 => simp only [List.getElem?_toArray, List.getElem?_cons_zero, List.getElem?_cons_succ]; rfl
  case hwu41 => rfl
  case hyu41 => (intro w9 hSw; (try dsimp only at hSw); go_simp; (try with_reducible rfl))
  case hQu41 => exact fun _ _ _ h => h
  (try simp only [Act.put, List.setIfInBounds_toArray, List.set_cons_zero, List.set_cons_succ])
  refine wpAnyH_take (i := 41) (oi := ?_) (v := ?_) ?hiu42 (by as_aux_lemma => kernel_rfl) (by as_aux_lemma => kernel_rfl) (by as_aux_lemma => kernel_rfl) ?hQu42 (Or.inl ⟨?hwu42, ?hyu42⟩) hHeld ?restu42
  case hiu42 => simp only [List.getElem?_toArray, List.getElem?_cons_zero, List.getElem?_cons_succ]; rfl
  case hwu42 => rfl
  case hyu42 => (intro w9 hSw; (try dsimp only at hSw); go_simp; (try with_reducible rfl))
  case hQu42 => exact fun _ _ _ h => h
  (try simp only [Act.put, List.setIfInBounds_toArray, List.set_cons_zero, List.set_cons_succ])
  refine wpAnyH_take (i := 42) (oi := ?_) (v := ?_) ?hiu43 (by as_aux_lemma => kernel_rfl) (by as_aux_lemma => kernel_rfl) (by as_aux_lemma => kernel_rfl) ?hQu43 (Or.inl ⟨?hwu43, ?hyu43⟩) hHeld ?restu43
  case hiu43 => simp only [List.getElem?_toArray, List.getElem?_cons_zero, List.getElem?_cons_succ]; rfl
  case hwu43 => rfl
  case hyu43 => (intro w9 hSw; (try dsimp only at hSw); go_simp; (try with_reducible rfl))
  case hQu43 => exact fun _ _ _ h => h
  (try simp only [Act.put, List.setIfInBounds_toArray, List.set_cons_zero, List.set_cons_succ])
  refine wpAnyH_take (i := 43) (oi := ?_) (v := ?_) ?hiu44 (by as_aux_lemma => kernel_rfl) (by as_aux_lemma => kernel_rfl) (by as_aux_lemma => kernel_rfl) ?hQu44 (Or.inl ⟨?hwu44, ?hyu44⟩) hHeld ?restu44
  case hiu44 => simp only [List.getElem?_toArray, List.getElem?_cons_zero, List.getElem?_cons_succ]; rfl
  case hwu44 => rfl
  case hyu44 => (intro w9 hSw; (try dsimp only at hSw); go_simp; (try with_reducible rfl))
  case hQu44 => exact fun _ _ _ h => h
  (try simp only [Act.put, List.setIfInBounds_toArray, List.set_cons_zero, List.set_cons_succ])
  refine wpAnyH_take (i := 44) (oi := ?_) (v := ?_) ?hiu45 (by as_aux_lemma => kernel_rfl) (by as_aux_lemma => kernel_rfl) (by as_aux_lemma => kernel_rfl) ?hQu45 (Or.inl ⟨?hwu45, ?hyu45⟩) hHeld ?restu45
  case hiu45 => simp only [List.getElem?_toArray, List.getElem?_cons_zero, List.getElem?_cons_succ]; rfl
  case hwu45 => rfl
  case hyu45 => (intro w9 hSw; (try dsimp only at hSw); go_simp; (try with_reducible rfl))
  case hQu45 => exact fun _ _ _ h => h
  (try simp only [Act.put, List.setIfInBounds_toArray, List.set_cons_zero, List.set_cons_succ])
  refine wpAnyH_take (i := 45) (oi := ?_) (v := ?_) ?hiu46 (by as_aux_lemma => kernel_rfl) (by as_aux_lemma => kernel_rfl) (by as_aux_lemma => kernel_rfl) ?hQu46 (Or.inl ⟨?hwu46, ?hyu46⟩) hHeld ?restu46
  case hiu46 => simp only [List.getElem?_toArray, List.getElem?_cons_zero, List.getElem?_cons_succ]; rfl
  case hwu46 => rfl
  case hyu46 => (intro w9 hSw; (try dsimp only at hSw); go_simp; (try with_reducible rfl))
  case hQu46 => exact fun _ _ _ h => h
  (try simp only [Act.put, List.setIfInBounds_toArray, List.set_cons_zero, List.set_cons_succ])
  refine wpAnyH_take (i := 46) (oi := ?_) (v := ?_) ?hiu47 (by as_aux_lemma => kernel_rfl) (by as_aux_lemma => kernel_rfl) (by as_aux_lemma => kernel_rfl) ?hQu47 (Or.inl ⟨?hwu47, ?hyu47⟩) hHeld ?restu47
  case hiu47 => simp only [List.getElem?_toArray, List.getElem?_cons_zero, List.getElem?_cons_succ]; rfl
  case hwu47 => rfl
  case hyu47 => (intro w9 hSw; (try dsimp only at hSw); go_simp; (try with_reducible rfl))
  case hQu47 => exact fun _ _ _ h => h
  (try simp only [Act.put, List.setIfInBounds_toArray, List.set_cons_zero, List.set_cons_succ])
  refine wpAnyH_take (i := 47) (oi := ?_) (v := ?_) ?hiu48 (by as_aux_lemma => kernel_rfl) (by as_aux_lemma => kernel_rfl) (by as_aux_lemma => kernel_rfl) ?hQu48 (Or.inl ⟨?hwu48, ?hyu48⟩) hHeld ?restu48
  case hiu48 => simp only [List.getElem?_toArray, List.getElem?_cons_zero, List.getElem?_cons_succ]; rfl
  case hwu48 => rfl
  case hyu48 => (intro w9 hSw; (try dsimp only at hSw); go_simp; (try with_reducible rfl))
  case hQu48 => exact fun _ _ _ h => h
  (try simp only [Act.put, List.setIfInBounds_toArray, List.set_cons_zero, List.set_cons_succ])
  refine wpAnyH_take (i := 48) (oi := ?_) (v := ?_) ?hiu49 (by as_aux_lemma => kernel_rfl) (by as_aux_lemma => kernel_rfl) (by as_aux_lemma => kernel_rfl) ?hQu49 (Or.inl ⟨?hwu49, ?hyu49⟩) hHeld ?restu49
  case hiu49 => simp only [List.getElem?_toArray, List.getElem?_cons_zero, List.getElem?_cons_succ]; rfl
  case hwu49 => rfl
  case hyu49 => (intro w9 hSw; (try dsimp only at hSw); go_simp; (try with_reducible rfl))
  case hQu49 => exact fun _ _ _ h => h
  (try simp only [Act.put, List.setIfInBounds_toArray, List.set_cons_zero, List.set_cons_succ])
  refine wpAnyH_take (i := 49) (oi := ?_) (v := ?_) ?hiu50 (by as_aux_lemma => kernel_rfl) (by as_aux_lemma => kernel_rfl) (by as_aux_lemma => kernel_rfl) ?hQu50 (Or.inl ⟨?hwu50, ?hyu50⟩) hHeld ?restu50
  case hiu50 => simp only [List.getElem?_toArray, List.getElem?_cons_zero, List.getElem?_cons_succ]; rfl
  case hwu50 => rfl
  case hyu50 => (intro w9 hSw; (try dsimp only at hSw); go_simp; (try with_reducible rfl))
  case hQu50 => exact fun _ _ _ h => h
  (try simp only [Act.put, List.setIfInBounds_toArray, List.set_cons_zero, List.set_cons_succ])
  refine wpAnyH_take (i := 50) (oi := ?_) (v := ?_) ?hiu51 (by as_aux_lemma => kernel_rfl) (by as_aux_lemma => kernel_rfl) (by as_aux_lemma => kernel_rfl) ?hQu51 (Or.inl ⟨?hwu51, ?hyu51⟩) hHeld ?restu51
  case hiu51 => simp only [List.getElem?_toArray, List.getElem?_cons_zero, List.getElem?_cons_succ]; rfl
  case hwu51 => rfl
  case hyu51 => (intro w9 hSw; (try dsimp only at hSw); go_simp; (try with_reducible rfl))
  case hQu51 => exact fun _ _ _ h => h
  (try simp only [Act.put, List.setIfInBounds_toArray, List.set_cons_zero, List.set_cons_succ])
  refine wpAnyH_take (i := 51) (oi := ?_) (v := ?_) ?hiu52 (by as_aux_lemma => kernel_rfl) (by as_aux_lemma => kernel_rfl) (by as_aux_lemma => kernel_rfl) ?hQu52 (Or.inl ⟨?hwu52, ?hyu52⟩) hHeld ?restu52
  case hiu52 => simp only [List.getElem?_toArray, List.getElem?_cons_zero, List.getElem?_cons_succ]; rfl
  case hwu52 => rfl
  case hyu52 => (intro w9 hSw; (try dsimp only at hSw); go_simp; (try with_reducible rfl))
  case hQu52 => exact fun _ _ _ h => h
  (try simp only [Act.put, List.setIfInBounds_toArray, List.set_cons_zero, List.set_cons_succ])
  refine wpAnyH_take (i := 52) (oi := ?_) (v := ?_) ?hiu53 (by as_aux_lemma => kernel_rfl) (by as_aux_lemma => kernel_rfl) (by as_aux_lemma => kernel_rfl) ?hQu53 (Or.inl ⟨?hwu53, ?hyu53⟩) hHeld ?restu53
  case hiu53 => simp only [List.getElem?_toArray, List.getElem?_cons_zero, List.getElem?_cons_succ]; rfl
  case hwu53 => rfl
  case hyu53 => (intro w9 hSw; (try dsimp only at hSw); go_simp; (try with_reducible rfl))
  case hQu53 => exact fun _ _ _ h => h
  (try simp only [Act.put, List.setIfInBounds_toArray, List.set_cons_zero, List.set_cons_succ])
  refine wpAnyH_take (i := 53) (oi := ?_) (v := ?_) ?hiu54 (by as_aux_lemma => kernel_rfl) (by as_aux_lemma => kernel_rfl) (by as_aux_lemma => kernel_rfl) ?hQu54 (Or.inl ⟨?hwu54, ?hyu54⟩) hHeld ?restu54
  case hiu54 => simp only [List.getElem?_toArray, List.getElem?_cons_zero, List.getElem?_cons_succ]; rfl
  case hwu54 => rfl
  case hyu54 => (intro w9 hSw; (try dsimp only at hSw); go_simp; (try with_reducible rfl))
  case hQu54 => exact fun _ _ _ h => h
  (try simp only [Act.put, List.setIfInBounds_toArray, List.set_cons_zero, List.set_cons_succ])
  refine wpAnyH_take (i := 54) (oi := ?_) (v := ?_) ?hiu55 (by as_aux_lemma => kernel_rfl) (by as_aux_lemma => kernel_rfl) (by as_aux_lemma => kernel_rfl) ?hQu55 (Or.inl ⟨?hwu55, ?hyu55⟩) hHeld ?restu55
  case hiu55 => simp only [List.getElem?_toArray, List.getElem?_cons_zero, List.getElem?_cons_succ]; rfl
  case hwu55 => rfl
  case hyu55 => (intro w9 hSw; (try dsimp only at hSw); go_simp; (try with_reducible rfl))
  case hQu55 => exact fun _ _ _ h => h
  (try simp only [Act.put, List.setIfInBounds_toArray, List.set_cons_zero, List.set_cons_succ])
  refine wpAnyH_take (i := 55) (oi := ?_) (v := ?_) ?hiu56 (by as_aux_lemma => kernel_rfl) (by as_aux_lemma => kernel_rfl) (by as_aux_lemma => kernel_rfl) ?hQu56 (Or.inl ⟨?hwu56, ?hyu56⟩) hHeld ?restu56
  case hiu56 => simp only [List.getElem?_toArray, List.getElem?_cons_zero, List.getElem?_cons_succ]; rfl
  case hwu56 => rfl
  case hyu56 => (intro w9 hSw; (try dsimp only at hSw); go_simp; (try with_reducible rfl))
  case hQu56 => exact fun _ _ _ h => h
  (try simp only [Act.put, List.setIfInBounds_toArray, List.set_cons_zero, List.set_cons_succ])
  refine wpAnyH_take (i := 56) (oi := ?_) (v := ?_) ?hiu57 (by as_aux_lemma => kernel_rfl) (by as_aux_lemma => kernel_rfl) (by as_aux_lemma => kernel_rfl) ?hQu57 (Or.inl ⟨?hwu57, ?hyu57⟩) hHeld ?restu57
  case hiu57 => simp only [List.getElem?_toArray, List.getElem?_cons_zero, List.getElem?_cons_succ]; rfl
  case hwu57 => rfl
  case hyu57 => (intro w9 hSw; (try dsimp only at hSw); go_simp; (try with_reducible rfl))
  case hQu57 => exact fun _ _ _ h => h
  (try simp only [Act.put, List.setIfInBounds_toArray, List.set_cons_zero, List.set_cons_succ])
  refine wpAnyH_take (i := 57) (oi := ?_) (v := ?_) ?hiu58 (by as_aux_lemma => kernel_rfl) (by as_aux_lemma => kernel_rfl) (by as_aux_lemma => kernel_rfl) ?hQu58 (Or.inl ⟨?hwu58, ?hyu58⟩) hHeld ?restu58
  case hiu58 => simp only [List.getElem?_toArray, List.getElem?_cons_zero, List.getElem?_cons_succ]; rfl
  case hwu58 => rfl
  case hyu58 => (intro w9 hSw; (try dsimp only at hSw); go_simp; (try with_reducible rfl))
  case hQu58 => exact fun _ _ _ h => h
  (try simp only [Act.put, List.setIfInBounds_toArray, List.set_cons_zero, List.set_cons_succ])
  refine wpAnyH_take (i := 58) (oi := ?_) (v := ?_) ?hiu59 (by as_aux_lemma => kernel_rfl) (by as_aux_lemma => kernel_rfl) (by as_aux_lemma => kernel_rfl) ?hQu59 (Or.inl ⟨?hwu59, ?hyu59⟩) hHeld ?restu59
  case hiu59 => simp only [List.getElem?_toArray, List.getElem?_cons_zero, List.getElem?_cons_succ]; rfl
  case hwu59 => rfl
  case hyu59 => (intro w9 hSw; (try dsimp only at hSw); go_simp; (try with_reducible rfl))
  case hQu59 => exact fun _ _ _ h => h
  (try simp only [Act.put, List.setIfInBounds_toArray, List.set_cons_zero, List.set_cons_succ])
  refine wpAnyH_take (i := 59) (oi := ?_) (v := ?_) ?hiu60 (by as_aux_lemma => kernel_rfl) (by as_aux_lemma => kernel_rfl) (by as_aux_lemma => kernel_rfl) ?hQu60 (Or.inl ⟨?hwu60, ?hyu60⟩) hHeld ?restu60
  case hiu60 => simp only [List.getElem?_toArray, List.getElem?_cons_zero, List.getElem?_cons_succ]; rfl
  case hwu60 => rfl
  case hyu60 => (intro w9 hSw; (try dsimp only at hSw); go_simp; (try with_reducible rfl))
  case hQu60 => exact fun _ _ _ h => h
  (try simp only [Act.put, List.setIfInBounds_toArray, List.set_cons_zero, List.set_cons_succ])
  refine wpAnyH_take (i := 60) (oi := ?_) (v := ?_) ?hiu61 (by as_aux_lemma => kernel_rfl) (by as_aux_lemma => kernel_rfl) (by as_aux_lemma => kernel_rfl) ?hQu61 (Or.inl ⟨?hwu61, ?hyu61⟩) hHeld ?restu61
  case hiu61 => simp only [List.getElem?_toArray, List.getElem?_cons_zero, List.getElem?_cons_succ]; rfl
  case hwu61 => rfl
  case hyu61 => (intro w9 hSw; (try dsimp only at hSw); go_simp; (try with_reducible rfl))
  case hQu61 => exact fun _ _ _ h => h
  (try simp only [Act.put, List.setIfInBounds_toArray, List.set_cons_zero, List.set_cons_succ])
  refine wpAnyH_take (i := 61) (oi := ?_) (v := ?_) ?hiu62 (by as_aux_lemma => kernel_rfl) (by as_aux_lemma => kernel_rfl) (by as_aux_lemma => kernel_rfl) ?hQu62 (Or.inl ⟨?hwu62, ?hyu62⟩) hHeld ?restu62
  case hiu62 => simp only [List.getElem?_toArray, List.getElem?_cons_zero, List.getElem?_cons_succ]; rfl
  case hwu62 => rfl
  case hyu62 => (intro w9 hSw; (try dsimp only at hSw); go_simp; (try with_reducible rfl))
  case hQu62 => exact fun _ _ _ h => h
  (try simp only [Act.put, List.setIfInBounds_toArray, List.set_cons_zero, List.set_cons_succ])
  refine wpAnyH_take (i := 62) (oi := ?_) (v := ?_) ?hiu63 (by as_aux_lemma => kernel_rfl) (by as_aux_lemma => kernel_rfl) (by as_aux_lemma => kernel_rfl) ?hQu63 (Or.inl ⟨?hwu63, ?hyu63⟩) hHeld ?restu63
  case hiu63 => simp only [List.getElem?_toArray, List.getElem?_cons_zero, List.getElem?_cons_succ]; rfl
  case hwu63 => rfl
  case hyu63 => (intro w9 hSw; (try dsimp only at hSw); go_simp; (try with_reducible rfl))
  case hQu63 => exact fun _ _ _ h => h
  (try simp only [Act.put, List.setIfInBounds_toArray, List.set_cons_zero, List.set_cons_succ])
  refine wpAnyH_take (i := 63) (oi := ?_) (v := ?_) ?hiu64 (by as_aux_lemma => kernel_rfl) (by as_aux_lemma => kernel_rfl) (by as_aux_lemma => kernel_rfl) ?hQu64 (Or.inl ⟨?hwu64, ?hyu64⟩) hHeld ?restu64
  case hiu64 => simp only [List.getElem?_toArray, List.getElem?_cons_zero, List.getElem?_cons_succ]; rfl
  case hwu64 => rfl
  case hyu64 => (intro w9 hSw; (try dsimp only at hSw); go_simp; (try with_reducible rfl))
  case hQu64 => exact fun _ _ _ h => h
  (try simp only [Act.put, List.setIfInBounds_toArray, List.set_cons_zero, List.set_cons_succ])
  refine wpAnyH_take (i := 64) (oi := ?_) (v := ?_) ?hiu65 (by as_aux_lemma => kernel_rfl) (by as_aux_lemma => kernel_rfl) (by as_aux_lemma => kernel_rfl) ?hQu65 (Or.inl ⟨?hwu65, ?hyu65⟩) hHeld ?restu65
  case hiu65 => simp only [List.getElem?_toArray, List.getElem?_cons_zero, List.getElem?_cons_succ]; rfl
  case hwu65 => rfl
  case hyu65 => (intro w9 hSw; (try dsimp only at hSw); go_simp; (try with_reducible rfl))
  case hQu65 => exact fun _ _ _ h => h
  (try simp only [Act.put, List.setIfInBounds_toArray, List.set_cons_zero, List.set_cons_succ])
  refine wpAnyH_take (i := 65) (oi := ?_) (v := ?_) ?hiu66 (by as_aux_lemma => kernel_rfl) (by as_aux_lemma => kernel_rfl) (by as_aux_lemma => kernel_rfl) ?hQu66 (Or.inl ⟨?hwu66, ?hyu66⟩) hHeld ?restu66
  case hiu66 => simp only [List.getElem?_toArray, List.getElem?_cons_zero, List.getElem?_cons_succ]; rfl
  case hwu66 => rfl
  case hyu66 => (intro w9 hSw; (try dsimp only at hSw); go_simp; (try with_reducible rfl))
  case hQu66 => exact fun _ _ _ h => h
  (try simp only [Act.put, List.setIfInBounds_toArray, List.set_cons_zero, List.set_cons_succ])
  refine wpAnyH_take (i := 66) (oi := ?_) (v := ?_) ?hiu67 (by as_aux_lemma => kernel_rfl) (by as_aux_lemma => kernel_rfl) (by as_aux_lemma => kernel_rfl) ?hQu67 (Or.inl ⟨?hwu67, ?hyu67⟩) hHeld ?restu67
  case hiu67 => simp only [List.getElem?_toArray, List.getElem?_cons_zero, List.getElem?_cons_succ]; rfl
  case hwu67 => rfl
  case hyu67 => (intro w9 hSw; (try dsimp only at hSw); go_simp; (try with_reducible rfl))
  case hQu67 => exact fun _ _ _ h => h
  (try simp only [Act.put, List.setIfInBounds_toArray, List.set_cons_zero, List.set_cons_succ])
  refine wpAnyH_take (i := 67) (oi := ?_) (v := ?_) ?hiu68 (by as_aux_lemma => kernel_rfl) (by as_aux_lemma => kernel_rfl) (by as_aux_lemma => kernel_rfl) ?hQu68 (Or.inl ⟨?hwu68, ?hyu68⟩) hHeld ?restu68
  case hiu68 => simp only [List.getElem?_toArray, List.getElem?_cons_zero, List.getElem?_cons_succ]; rfl
  case hwu68 => rfl
  case hyu68 => (intro w9 hSw; (try dsimp only at hSw); go_simp; (try with_reducible rfl))
  case hQu68 => exact fun _ _ _ h => h
  (try simp only [Act.put, List.setIfInBounds_toArray, List.set_cons_zero, List.set_cons_succ])
  refine wpAnyH_take (i := 68) (oi := ?_) (v := ?_) ?hiu69 (by as_aux_lemma => kernel_rfl) (by as_aux_lemma => kernel_rfl) (by as_aux_lemma => kernel_rfl) ?hQu69 (Or.inl ⟨?hwu69, ?hyu69⟩) hHeld ?restu69
  case hiu69 => simp only [List.getElem?_toArray, List.getElem?_cons_zero, List.getElem?_cons_succ]; rfl
  case hwu69 => rfl
  case hyu69 => (intro w9 hSw; (try dsimp only at hSw); go_simp; (try with_reducible rfl))
  case hQu69 => exact fun _ _ _ h => h
  (try simp only [Act.put, List.setIfInBounds_toArray, List.set_cons_zero, List.set_cons_succ])
  refine wpAnyH_take (i := 69) (oi := ?_) (v := ?_) ?hiu70 (by as_aux_lemma => kernel_rfl) (by as_aux_lemma => kernel_rfl) (by as_aux_lemma => kernel_rfl) ?hQu70 (Or.inl ⟨?hwu70, ?hyu70⟩) hHeld ?restu70
  case hiu70 => simp only [List.getElem?_toArray, List.getElem?_cons_zero, List.getElem?_cons_succ]; rfl
  case hwu70 => rfl
  case hyu70 => (intro w9 hSw; (try dsimp only at hSw); go_simp; (try with_reducible rfl))
  case hQu70 => exact fun _ _ _ h => h
  (try simp only [Act.put, List.setIfInBounds_toArray, List.set_cons_zero, List.set_cons_succ])
  refine wpAnyH_take (i := 70) (oi := ?_) (v := ?_) ?hiu71 (by as_aux_lemma => kernel_rfl) (by as_aux_lemma => kernel_rfl) (by as_aux_lemma => kernel_rfl) ?hQu71 (Or.inl ⟨?hwu71, ?hyu71⟩) hHeld ?restu71
  case hiu71 => simp only [List.getElem?_toArray, List.getElem?_cons_zero, List.getElem?_cons_succ]; rfl
  case hwu71 => rfl
  case hyu71 => (intro w9 hSw; (try dsimp only at hSw); go_simp; (try with_reducible rfl))
  case hQu71 => exact fun _ _ _ h => h
  (try simp only [Act.put, List.setIfInBounds_toArray, List.set_cons_zero, List.set_cons_succ])
  refine wpAnyH_take (i := 71) (oi := ?_) (v := ?_) ?hiu72 (by as_aux_lemma => kernel_rfl) (by as_aux_lemma => kernel_rfl) (by as_aux_lemma => kernel_rfl) ?hQu72 (Or.inl ⟨?hwu72, ?hyu72⟩) hHeld ?restu72
  case hiu72 => simp only [List.getElem?_toArray, List.getElem?_cons_zero, List.getElem?_cons_succ]; rfl
  case hwu72 => rfl
  case hyu72 => (intro w9 hSw; (try dsimp only at hSw); go_simp; (try with_reducible rfl))
  case hQu72 => exact fun _ _ _ h => h
  (try simp only [Act.put, List.setIfInBounds_toArray, List.set_cons_zero, List.set_cons_succ])
  refine wpAnyH_take (i := 72) (oi := ?_) (v := ?_) ?hiu73 (by as_aux_lemma => kernel_rfl) (by as_aux_lemma => kernel_rfl) (by as_aux_lemma => kernel_rfl) ?hQu73 (Or.inl ⟨?hwu73, ?hyu73⟩) hHeld ?restu73
  case hiu73 => simp only [List.getElem?_toArray, List.getElem?_cons_zero, List.getElem?_cons_succ]; rfl
  case hwu73 => rfl
  case hyu73 => (intro w9 hSw; (try dsimp only at hSw); go_simp; (try with_reducible rfl))
  case hQu73 => exact fun _ _ _ h => h
  (try simp only [Act.put, List.setIfInBounds_toArray, List.set_cons_zero, List.set_cons_succ])
  refine wpAnyH_ready (rs := [73]) (by as_aux_lemma => kernel_rfl) (by simp) (AllReadyH.cons (o := ?_) ?hiu74 (fun K hK => ?_) AllReadyH.nil)
  case hiu74 => simp only [List.getElem?_toArray, List.getElem?_cons_zero, List.getElem?_cons_succ]; rfl
  (try rw [if_pos (by rfl)])
  go_wp2_with fail
  refine (ledFull_nil _).mono ?_
  rintro e w21 ⟨rfl, hb21⟩
  dsimp only
  refine hK.out _ _ ?_ (fun hHeld => ?_)
  · exact hS _ (bT hHeld.1 hb21)
  clear hK K
  (try simp only [Act.put, List.setIfInBounds_toArray, List.set_cons_zero, List.set_cons_succ])
  refine wpAnyH_take (i := 74) (oi := ?_) (v := ?_) ?hiu75 (by as_aux_lemma => kernel_rfl) (by as_aux_lemma => kernel_rfl) (by as_aux_lemma => kernel_rfl) ?hQu75 (Or.inl ⟨?hwu75, ?hyu75⟩) hHeld ?restu75
  case hiu75 => simp only [List.getElem?_toArray, List.getElem?_cons_zero, List.getElem?_cons_succ]; rfl
  case hwu75 => rfl
  case hyu75 => (intro w9 hSw; (try dsimp only at hSw); go_simp; (try with_reducible rfl))
  case hQu75 => exact fun _ _ _ h => h
  (try simp only [Act.put, List.setIfInBounds_toArray, List.set_cons_zero, List.set_cons_succ])
  refine wpAnyH_take (i := 75) (oi := ?_) (v := ?_) ?hiu76 (by as_aux_lemma => kernel_rfl) (by as_aux_lemma => kernel_rfl) (by as_aux_lemma => kernel_rfl) ?hQu76 (Or.inl ⟨?hwu76, ?hyu76⟩) hHeld ?restu76
  case hiu76 => simp only [List.getElem?_toArray, List.getElem?_cons_zero, List.getElem?_cons_succ]; rfl
  case hwu76 => rfl
  case hyu76 => (intro w9 hSw; (try dsimp only at hSw); go_simp; (try with_reducible rfl))
  case hQu76 => exact fun _ _ _ h => h
  (try simp only [Act.put, List.setIfInBounds_toArray, List.set_cons_zero, List.set_cons_succ])
  refine wpAnyH_take (i := 76) (oi := ?_) (v := ?_) ?hiu77 (by as_aux_lemma => kernel_rfl) (by as_aux_lemma => kernel_rfl) (by as_aux_lemma => kernel_rfl) ?hQu77 (Or.inl ⟨?hwu77, ?hyu77⟩) hHeld ?restu77
  case hiu77 => simp only [List.getElem?_toArray, List.getElem?_cons_zero, List.getElem?_cons_succ]; rfl
  case hwu77 => rfl
  case hyu77 => (intro w9 hSw; (try dsimp only at hSw); go_simp; (try with_reducible rfl))
  case hQu77 => exact fun _ _ _ h => h
  (try simp only [Act.put, List.setIfInBounds_toArray, List.set_cons_zero, List.set_cons_succ])
  refine wpAnyH_ready (rs := [77]) (by as_aux_lemma => kernel_rfl) (by simp) (AllReadyH.cons (o := ?_) ?hiu78 (fun K hK => ?_) AllReadyH.nil)
  case hiu78 => simp only [List.getElem?_toArray, List.getElem?_cons_zero, List.getElem?_cons_succ]; rfl
  (try rw [if_pos (by rfl)])
  go_wp2_with fail
  refine (ledFull_any (w.heap.size + 1) w.heap.size 2 [sgl 3, sglB] _ (HL20.out.below hHeld.1 (Nat.le_refl _))).mono ?_
  rintro e w22 ⟨he, hb22⟩
  rw [show decide ((2 : Int) ≤ (([sgl 3, sglB] : List En).length : Int)) = true from by decide] at he
  subst he
  dsimp only
  refine hK.out _ _ ?_ (fun hHeld => ?_)
  · exact hS _ (bT hHeld.1 hb22)
  clear hK K
  (try simp only [Act.put, List.setIfInBounds_toArray, List.set_cons_zero, List.set_cons_succ])
  refine wpAnyH_take (i := 78) (oi := ?_) (v := ?_) ?hiu79 (by as_aux_lemma => kernel_rfl) (by as_aux_lemma => kernel_rfl) (by as_aux_lemma => kernel_rfl) ?hQu79 (Or.inl ⟨?hwu79, ?hyu79⟩) hHeld ?restu79
  case hiu79 => simp only [List.getElem?_toArray, List.getElem?_cons_zero, List.getElem?_cons_succ]; rfl
  case hwu79 => rfl
  case hyu79 => (intro w9 hSw; (try dsimp only at hSw); go_simp; (try with_reducible rfl))
  case hQu79 => exact fun _ _ _ h => h
  (try simp only [Act.put, List.setIfInBounds_toArray, List.set_cons_zero, List.set_cons_succ])
  refine wpAnyH_take (i := 79) (oi := ?_) (v := ?_) ?hiu80 (by as_aux_lemma => kernel_rfl) (by as_aux_lemma => kernel_rfl) (by as_aux_lemma => kernel_rfl) ?hQu80 (Or.inl ⟨?hwu80, ?hyu80⟩) hHeld ?restu80
  case hiu80 => simp only [List.getElem?_toArray, List.getElem?_cons_zero, List.getElem?_cons_succ]; rfl
  case hwu80 => rfl
  case hyu80 => (intro w9 hSw; (try dsimp only at hSw); go_simp; (try with_reducible rfl))
  case hQu80 => exact fun _ _ _ h => h
  (try simp only [Act.put, List.setIfInBounds_toArray, List.set_cons_zero, List.set_cons_succ])
  refine wpAnyH_take (i := 80) (oi := ?_) (v := ?_) ?hiu81 (by as_aux_lemma => kernel_rfl) (by as_aux_lemma => kernel_rfl) (by as_aux_lemma => kernel_rfl) ?hQu81 (Or.inl ⟨?hwu81, ?hyu81⟩) hHeld ?restu81
  case hiu81 => simp only [List.getElem?_toArray, List.getElem?_cons_zero, List.getElem?_cons_succ]; rfl
  case hwu81 => rfl
  case hyu81 => (intro w9 hSw; (try dsimp only at hSw); go_simp; (try with_reducible rfl))
  case hQu81 => exact fun _ _ _ h => h
  (try simp only [Act.put, List.setIfInBounds_toArray, List.set_cons_zero, List.set_cons_succ])
  refine wpAnyH_ready (rs := [81]) (by as_aux_lemma => kernel_rfl) (by simp) (AllReadyH.cons (o := ?_) ?hiu82 (fun K hK => ?_) AllReadyH.nil)
  case hiu82 => simp only [List.getElem?_toArray, List.getElem?_cons_zero, List.getElem?_cons_succ]; rfl
  (try rw [if_pos (by rfl)])
  go_wp2_with fail
  refine (ledLen_any (w.heap.size + 1) w.heap.size 2 [sgl 3, sglB] _ (HL20.out.below hHeld.1 (Nat.le_refl _))).mono ?_
  rintro e w23 ⟨he, hb23⟩
  rw [show (([sgl 3, sglB] : List En).length : Int) = 2 from rfl] at he
  subst he
  dsimp only
  refine hK.out _ _ ?_ (fun hHeld => ?_)
  · exact hS _ (bT hHeld.1 hb23)
  clear hK K
  (try simp only [Act.put, List.setIfInBounds_toArray, List.set_cons_zero, List.set_cons_succ])
  refine wpAnyH_take (i := 82) (oi := ?_) (v := ?_) ?hiu83 (by as_aux_lemma => kernel_rfl) (by as_aux_lemma => kernel_rfl) (by as_aux_lemma => kernel_rfl) ?hQu83 (Or.inl ⟨?hwu83, ?hyu83⟩) hHeld ?restu83
  case hiu83 => simp only [List.getElem?_toArray, List.getElem?_cons_zero, List.getElem?_cons_succ]; rfl
  case hwu83 => rfl
  case hyu83 => (intro w9 hSw; (try dsimp only at hSw); go_simp; (try with_reducible rfl))
  case hQu83 => exact fun _ _ _ h => h
  (try simp only [Act.put, List.setIfInBounds_toArray, List.set_cons_zero, List.set_cons_succ])
  refine wpAnyH_take (i := 83) (oi := ?_) (v := ?_) ?hiu84 (by as_aux_lemma => kernel_rfl) (by as_aux_lemma => kernel_rfl) (by as_aux_lemma => kernel_rfl) ?hQu84 (Or.inl ⟨?hwu84, ?hyu84⟩) hHeld ?restu84
  case hiu84 => simp only [List.getElem?_toArray, List.getElem?_cons_zero, List.getElem?_cons_succ]; rfl
  case hwu84 => rfl
  case hyu84 => (intro w9 hSw; (try dsimp only at hSw); go_simp; (try with_reducible rfl))
  case hQu84 => exact fun _ _ _ h => h
  (try simp only [Act.put, List.setIfInBounds_toArray, List.set_cons_zero, List.set_cons_succ])
  refine wpAnyH_take (i := 84) (oi := ?_) (v := ?_) ?hiu85 (by as_aux_lemma => kernel_rfl) (by as_aux_lemma => kernel_rfl) (by as_aux_lemma => kernel_rfl) ?hQu85 (Or.inl ⟨?hwu85, ?hyu85⟩) hHeld ?restu85
  case hiu85 => simp only [List.getElem?_toArray, List.getElem?_cons_zero, List.getElem?_cons_succ]; rfl
  case hwu85 => rfl
  case hyu85 => (intro w9 hSw; (try dsimp only at hSw); go_simp; (try with_reducible rfl))
  case hQu85 => exact fun _ _ _ h => h
  (try simp only [Act.put, List.setIfInBounds_toArray, List.set_cons_zero, List.set_cons_succ])
  refine wpAnyH_take (i := 85) (oi := ?_) (v := ?_) ?hiu86 (by as_aux_lemma => kernel_rfl) (by as_aux_lemma => kernel_rfl) (by as_aux_lemma => kernel_rfl) ?hQu86 (Or.inl ⟨?hwu86, ?hyu86⟩) hHeld ?restu86
  case hiu86 => simp only [List.getElem?_toArray, List.getElem?_cons_zero, List.getElem?_cons_succ]; rfl
  case hwu86 => rfl
  case hyu86 => (intro w9 hSw; (try dsimp only at hSw); go_simp; (try with_reducible rfl))
  case hQu86 => exact fun _ _ _ h => h
  (try simp only [Act.put, List.setIfInBounds_toArray, List.set_cons_zero, List.set_cons_succ])
  refine wpAnyH_ready (rs := [86]) (by as_aux_lemma => kernel_rfl) (by simp) (AllReadyH.cons (o := ?_) ?hiu87 (fun K hK => ?_) AllReadyH.nil)
  case hiu87 => simp only [List.getElem?_toArray, List.getElem?_cons_zero, List.getElem?_cons_succ]; rfl
  (try rw [if_pos (by rfl)])
  go_wp2_with fail
  refine (ledLen_nil _).mono ?_
  rintro e w24 ⟨rfl, rfl⟩
  dsimp only
  refine hK.out _ _ ?_ (fun hHeld => ?_)
  · exact hHeld
  clear hK K
  (try simp only [Act.put, List.setIfInBounds_toArray, List.set_cons_zero, List.set_cons_succ])
  refine wpAnyH_take (i := 87) (oi := ?_) (v := ?_) ?hiu88 (by as_aux_lemma => kernel_rfl) (by as_aux_lemma => kernel_rfl) (by as_aux_lemma => kernel_rfl) ?hQu88 (Or.inl ⟨?hwu88, ?hyu88⟩) hHeld ?restu88
  case hiu88 => simp only [List.getElem?_toArray, List.getElem?_cons_zero, List.getElem?_cons_succ]; rfl
  case hwu88 => rfl
  case hyu88 => (intro w9 hSw; (try dsimp only at hSw); go_simp; (try with_reducible rfl))
  case hQu88 => exact fun _ _ _ h => h
  (try simp only [Act.put, List.setIfInBounds_toArray, List.set_cons_zero, List.set_cons_succ])
  refine wpAnyH_take (i := 88) (oi := ?_) (v := ?_) ?hiu89 (by as_aux_lemma => kernel_rfl) (by as_aux_lemma => kernel_rfl) (by as_aux_lemma => kernel_rfl) ?hQu89 (Or.inl ⟨?hwu89, ?hyu89⟩) hHeld ?restu89
  case hiu89 => simp only [List.getElem?_toArray, List.getElem?_cons_zero, List.getElem?_cons_succ]; rfl
  case hwu89 => rfl
  case hyu89 => (intro w9 hSw; (try dsimp only at hSw); go_simp; (try with_reducible rfl))
  case hQu89 => exact fun _ _ _ h => h
  (try simp only [Act.put, List.setIfInBounds_toArray, List.set_cons_zero, List.set_cons_succ])
  refine wpAnyH_take (i := 89) (oi := ?_) (v := ?_) ?hiu90 (by as_aux_lemma => kernel_rfl) (by as_aux_lemma => kernel_rfl) (by as_aux_lemma => kernel_rfl) ?hQu90 (Or.inl ⟨?hwu90, ?hyu90⟩) hHeld ?restu90
  case hiu90 => simp only [List.getElem?_toArray, List.getElem?_cons_zero, List.getElem?_cons_succ]; rfl
  case hwu90 => rfl
  case hyu90 => (intro w9 hSw; (try dsimp only at hSw); go_simp; (try with_reducible rfl))
  case hQu90 => exact fun _ _ _ h => h
  (try simp only [Act.put, List.setIfInBounds_toArray, List.set_cons_zero, List.set_cons_succ])
  refine wpAnyH_take (i := 90) (oi := ?_) (v := ?_) ?hiu91 (by as_aux_lemma => kernel_rfl) (by as_aux_lemma => kernel_rfl) (by as_aux_lemma => kernel_rfl) ?hQu91 (Or.inl ⟨?hwu91, ?hyu91⟩) hHeld ?restu91
  case hiu91 => simp only [List.getElem?_toArray, List.getElem?_cons_zero, List.getElem?_cons_succ]; rfl
  case hwu91 => rfl
  case hyu91 => (intro w9 hSw; (try dsimp only at hSw); go_simp; (try with_reducible rfl))
  case hQu91 => exact fun _ _ _ h => h
  (try simp only [Act.put, List.setIfInBounds_toArray, List.set_cons_zero, List.set_cons_succ])
  refine wpAnyH_take (i := 93) (oi := ?_) (v := ?_) ?hiu92 (by as_aux_lemma => kernel_rfl) (by as_aux_lemma => kernel_rfl) (by as_aux_lemma => kernel_rfl) ?hQu92 (Or.inl ⟨?hwu92, ?hyu92⟩) hHeld ?restu92
  case hiu92 => simp only [List.getElem?_toArray, List.getElem?_cons_zero, List.getElem?_cons_succ]; rfl
  case hwu92 => rfl
  case hyu92 => (intro w9 hSw; (try dsimp only at hSw); go_simp; (try with_reducible rfl))
  case hQu92 => exact fun _ _ _ h => h
  (try simp only [Act.put, List.setIfInBounds_toArray, List.set_cons_zero, List.set_cons_succ])
  refine wpAnyH_ready (rs := [91]) (by as_aux_lemma => kernel_rfl) (by simp) (AllReadyH.cons (o := ?_) ?hiu93 (fun K hK => ?_) AllReadyH.nil)
  case hiu93 => simp only [List.getElem?_toArray, List.getElem?_cons_zero, List.getElem?_cons_succ]; rfl
  (try rw [if_pos (by rfl)])
  go_wp2_with fail
  refine (single_any 1 _).mono ?_
  rintro e w25 ⟨rfl, hb25⟩
  dsimp only
  refine hK.out _ _ ?_ (fun hHeld => ?_)
  · exact hS _ (bT hHeld.1 hb25)
  clear hK K
  (try simp only [Act.put, List.setIfInBounds_toArray, List.set_cons_zero, List.set_cons_succ])
  refine wpAnyH_ready (rs := [92]) (by as_aux_lemma => kernel_rfl) (by simp) (AllReadyH.cons (o := ?_) ?hiu94 (fun K hK => ?_) AllReadyH.nil)
  case hiu94 => simp only [List.getElem?_toArray, List.getElem?_cons_zero, List.getElem?_cons_succ]; rfl
  (try rw [if_pos (by rfl)])
  go_wp2_with fail
  refine (ledAdd_nil (sgl 1) _).mono ?_
  rintro e w26 ⟨rfl, hb26⟩
  dsimp only
  refine hK.out _ _ ?_ (fun hHeld => ?_)
  · exact hS _ (bT hHeld.1 hb26)
  clear hK K
  (try simp only [Act.put, List.setIfInBounds_toArray, List.set_cons_zero, List.set_cons_succ])
  refine wpAnyH_take (i := 94) (oi := ?_) (v := ?_) ?hiu95 (by as_aux_lemma => kernel_rfl) (by as_aux_lemma => kernel_rfl) (by as_aux_lemma => kernel_rfl) ?hQu95 (Or.inl ⟨?hwu95, ?hyu95⟩) hHeld ?restu95
  case hiu95 => simp only [List.getElem?_toArray, List.getElem?_cons_zero, List.getElem?_cons_succ]; rfl
  case hwu95 => rfl
  case hyu95 => (intro w9 hSw; (try dsimp only at hSw); go_simp; (try with_reducible rfl))
  case hQu95 => exact fun _ _ _ h => h
  (try simp only [Act.put, List.setIfInBounds_toArray, List.set_cons_zero, List.set_cons_succ])
  refine wpAnyH_take (i := 95) (oi := ?_) (v := ?_) ?hiu96 (by as_aux_lemma => kernel_rfl) (by as_aux_lemma => kernel_rfl) (by as_aux_lemma => kernel_rfl) ?hQu96 (Or.inl ⟨?hwu96, ?hyu96⟩) hHeld ?restu96
  case hiu96 => simp only [List.getElem?_toArray, List.getElem?_cons_zero, List.getElem?_cons_succ]; rfl
  case hwu96 => rfl
  case hyu96 => (intro w9 hSw; (try dsimp only at hSw); go_simp; (try with_reducible rfl))
  case hQu96 => exact fun _ _ _ h => h
  (try simp only [Act.put, List.setIfInBounds_toArray, List.set_cons_zero, List.set_cons_succ])
  refine wpAnyH_take (i := 96) (oi := ?_) (v := ?_) ?hiu97 (by as_aux_lemma => kernel_rfl) (by as_aux_lemma => kernel_rfl) (by as_aux_lemma => kernel_rfl) ?hQu97 (Or.inl ⟨?hwu97, ?hyu97⟩) hHeld ?restu97
  case hiu97 => simp only [List.getElem?_toArray, List.getElem?_cons_zero, List.getElem?_cons_succ]; rfl
  case hwu97 => rfl
  case hyu97 => (intro w9 hSw; (try dsimp only at hSw); go_simp; (try with_reducible rfl))
  case hQu97 => exact fun _ _ _ h => h
  (try simp only [Act.put, List.setIfInBounds_toArray, List.set_cons_zero, List.set_cons_succ])
  refine wpAnyH_take (i := 97) (oi := ?_) (v := ?_) ?hiu98 (by as_aux_lemma => kernel_rfl) (by as_aux_lemma => kernel_rfl) (by as_aux_lemma => kernel_rfl) ?hQu98 (Or.inl ⟨?hwu98, ?hyu98⟩) hHeld ?restu98
  case hiu98 => simp only [List.getElem?_toArray, List.getElem?_cons_zero, List.getElem?_cons_succ]; rfl
  case hwu98 => rfl
  case hyu98 => (intro w9 hSw; (try dsimp only at hSw); go_simp; (try with_reducible rfl))
  case hQu98 => exact fun _ _ _ h => h
  (try simp only [Act.put, List.setIfInBounds_toArray, List.set_cons_zero, List.set_cons_succ])
  refine wpAnyH_ready (rs := [98]) (by as_aux_lemma => kernel_rfl) (by simp) (AllReadyH.cons (o := ?_) ?hiu99 (fun K hK => ?_) AllReadyH.nil)
  case hiu99 => simp only [List.getElem?_toArray, List.getElem?_cons_zero, List.getElem?_cons_succ]; rfl
  (try rw [if_pos (by rfl)])
  go_wp2_with fail
  refine (ledIs_any sglB _).mono ?_
  rintro e w27 ⟨he, hb27⟩
  rw [o1] at he
  subst he
  dsimp only
  refine hK.out _ _ ?_ (fun hHeld => ?_)
  · exact hS _ (bT hHeld.1 hb27)
  clear hK K
  (try simp only [Act.put, List.setIfInBounds_toArray, List.set_cons_zero, List.set_cons_succ])
  refine wpAnyH_take (i := 99) (oi := ?_) (v := ?_) ?hiu100 (by as_aux_lemma => kernel_rfl) (by as_aux_lemma => kernel_rfl) (by as_aux_lemma => kernel_rfl) ?hQu100 (Or.inl ⟨?hwu100, ?hyu100⟩) hHeld ?restu100
  case hiu100 => simp only [List.getElem?_toArray, List.getElem?_cons_zero, List.getElem?_cons_succ]; rfl
  case hwu100 => rfl
  case hyu100 => (intro w9 hSw; (try dsimp only at hSw); go_simp; (try with_reducible rfl))
  case hQu100 => exact fun _ _ _ h => h
  (try simp only [Act.put, List.setIfInBounds_toArray, List.set_cons_zero, List.set_cons_succ])
  refine wpAnyH_take (i := 100) (oi := ?_) (v := ?_) ?hiu101 (by as_aux_lemma => kernel_rfl) (by as_aux_lemma => kernel_rfl) (by as_aux_lemma => kernel_rfl) ?hQu101 (Or.inl ⟨?hwu101, ?hyu101⟩) hHeld ?restu101
  case hiu101 => simp only [List.getElem?_toArray, List.getElem?_cons_zero, List.getElem?_cons_succ]; rfl
  case hwu101 => rfl
  case hyu101 => (intro w9 hSw; (try dsimp only at hSw); go_simp; (try with_reducible rfl))
  case hQu101 => exact fun _ _ _ h => h
  (try simp only [Act.put, List.setIfInBounds_toArray, List.set_cons_zero, List.set_cons_succ])
  refine wpAnyH_take (i := 101) (oi := ?_) (v := ?_) ?hiu102 (by as_aux_lemma => kernel_rfl) (by as_aux_lemma => kernel_rfl) (by as_aux_lemma => kernel_rfl) ?hQu102 (Or.inl ⟨?hwu102, ?hyu102⟩) hHeld ?restu102
  case hiu102 => simp only [List.getElem?_toArray, List.getElem?_cons_zero, List.getElem?_cons_succ]; rfl
  case hwu102 => rfl
  case hyu102 => (intro w9 hSw; (try dsimp only at hSw); go_simp; (try with_reducible rfl))
  case hQu102 => exact fun _ _ _ h => h
  (try simp only [Act.put, List.setIfInBounds_toArray, List.set_cons_zero, List.set_cons_succ])
  refine wpAnyH_ready (rs := [102]) (by as_aux_lemma => kernel_rfl) (by simp) (AllReadyH.cons (o := ?_) ?hiu103 (fun K hK => ?_) AllReadyH.nil)
  case hiu103 => simp only [List.getElem?_toArray, List.getElem?_cons_zero, List.getElem?_cons_succ]; rfl
  (try rw [if_pos (by rfl)])
  go_wp2_with fail
  refine (ledIs_any sglC _).mono ?_
  rintro e w28 ⟨he, hb28⟩
  rw [o2] at he
  subst he
  dsimp only
  refine hK.out _ _ ?_ (fun hHeld => ?_)
  · exact hS _ (bT hHeld.1 hb28)
  clear hK K
  (try simp only [Act.put, List.setIfInBounds_toArray, List.set_cons_zero, List.set_cons_succ])
  refine wpAnyH_take (i := 103) (oi := ?_) (v := ?_) ?hiu104 (by as_aux_lemma => kernel_rfl) (by as_aux_lemma => kernel_rfl) (by as_aux_lemma => kernel_rfl) ?hQu104 (Or.inl ⟨?hwu104, ?hyu104⟩) hHeld ?restu104
  case hiu104 => simp only [List.getElem?_toArray, List.getElem?_cons_zero, List.getElem?_cons_succ]; rfl
  case hwu104 => rfl
  case hyu104 => (intro w9 hSw; (try dsimp only at hSw); go_simp; (try with_reducible rfl))
  case hQu104 => exact fun _ _ _ h => h
  (try simp only [Act.put, List.setIfInBounds_toArray, List.set_cons_zero, List.set_cons_succ])
  refine wpAnyH_take (i := 104) (oi := ?_) (v := ?_) ?hiu105 (by as_aux_lemma => kernel_rfl) (by as_aux_lemma => kernel_rfl) (by as_aux_lemma => kernel_rfl) ?hQu105 (Or.inl ⟨?hwu105, ?hyu105⟩) hHeld ?restu105
  case hiu105 => simp only [List.getElem?_toArray, List.getElem?_cons_zero, List.getElem?_cons_succ]; rfl
  case hwu105 => rfl
  case hyu105 => (intro w9 hSw; (try dsimp only at hSw); go_simp; (try with_reducible rfl))
  case hQu105 => exact fun _ _ _ h => h
  (try simp only [Act.put, List.setIfInBounds_toArray, List.set_cons_zero, List.set_cons_succ])
  refine wpAnyH_take (i := 105) (oi := ?_) (v := ?_) ?hiu106 (by as_aux_lemma => kernel_rfl) (by as_aux_lemma => kernel_rfl) (by as_aux_lemma => kernel_rfl) ?hQu106 (Or.inl ⟨?hwu106, ?hyu106⟩) hHeld ?restu106
  case hiu106 => simp only [List.getElem?_toArray, List.getElem?_cons_zero, List.getElem?_cons_succ]; rfl
  case hwu106 => rfl
  case hyu106 => (intro w9 hSw; (try dsimp only at hSw); go_simp; (try with_reducible rfl))
  case hQu106 => exact fun _ _ _ h => h
  (try simp only [Act.put, List.setIfInBounds_toArray, List.set_cons_zero, List.set_cons_succ])
  refine wpAnyH_done (by as_aux_lemma => kernel_rfl) ?_ _
  have HBE := Lib.hid (bT HB20.out hHeld.1)
  clear hHeld hS
  go_wp2
  go_ret
  exact ⟨rfl, HBE.out⟩
end Go.Proofs.Ytpmfmkkifkpdcaa

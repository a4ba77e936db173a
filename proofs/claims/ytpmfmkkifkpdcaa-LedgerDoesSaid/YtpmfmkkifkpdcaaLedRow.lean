/- Layer 24, memory: a slice that reads as a list of entries; what the library's sort makes of a row of right entries. No condition. -/
import Derived.Test.YtpmfmkkifkpdcaaLedNew
import Derived.Test.YtpmfmkkifkpdcaaMem
import Derived.Test.YtpmfmkkifkpdcaaLedSort
import Derived.Shelf.SlSortCmp.NoneTotal
namespace Go.Proofs.Ytpmfmkkifkpdcaa
open Go.RowKit Go.Maps
set_option linter.unusedVariables false
set_option maxRecDepth 100000
set_option linter.unusedSimpArgs false

/-- The entry at a place of memory. -/
def EnAt (w : World) (p : Addr) (e : En) : Prop :=
  w.cell? p = some (.int .i64 e.a0) ∧ ∀ k v, e.row[k + 1]? = some v → w.cell? ⟨p.block, p.off + (k + 1), none⟩ = some v
/-- The slice at A reads as the entries S. -/
def RdE (w : World) (A : Option Addr) (S : List En) : Prop :=
  S = [] ∨ ∃ ad, A = some ad ∧ ad.block < w.heap.size ∧ ∀ j, (h : j < S.length) → EnAt w (ad.add (j * 14)) S[j]
theorem EnAt.below {w w' : World} {p : Addr} {n : Nat} {e : En} (h : EnAt w p e) (hb : Below n w w') (hn : w.heap.size ≤ n) : EnAt w' p e := by
  have K : ∀ {a : Addr} {v : Value}, w.cell? a = some v → w'.cell? a = some v := fun hc => (hb.cell (Nat.lt_of_lt_of_le (World.block_lt_of_cell? w _ hc) hn)).trans hc
  exact ⟨K h.1, fun k v hv => K (h.2 k v hv)⟩
theorem RdE.below {w w' : World} {A : Option Addr} {S : List En} {n : Nat} (h : RdE w A S) (hb : Below n w w') (hn : w.heap.size ≤ n) : RdE w' A S := by
  rcases h with h | ⟨ad, e, hlt, hk⟩
  · exact .inl h
  · exact .inr ⟨ad, e, Nat.lt_of_lt_of_le hlt hb.size, fun j hj => (hk j hj).below hb hn⟩
theorem EnAt.grown {w w' : World} {p : Addr} {row : Option Nat} {e : En} (h : EnAt w p e) (hg : w.grownBy w' row) (hne : some p.block ≠ row) : EnAt w' p e :=
  ⟨hg.cell h.1 hne, fun k v hv => hg.cell (h.2 k v hv) hne⟩
theorem RdE.grown {w w' : World} {A : Option Addr} {S : List En} {row : Option Nat} (h : RdE w A S) (hg : w.grownBy w' row) (hne : ∀ a, A = some a → some a.block ≠ row) : RdE w' A S := by
  rcases h with h | ⟨ad, e, hlt, hk⟩
  · exact .inl h
  · exact .inr ⟨ad, e, Nat.lt_of_lt_of_le hlt hg.size, fun j hj => (hk j hj).grown hg (by rw [add_block]; exact hne ad e)⟩
theorem RdE.nil (w : World) (A : Option Addr) : RdE w A [] := .inl rfl

/-- A right entry. -/
def OkEn : Type := {e : En // e.ok = true}
instance : Inhabited OkEn := ⟨⟨⟨1, 1, 1, 2, 1, 0, 0, 0, 1, 1, 0, 1, 0, false⟩, by decide⟩⟩
def okRow (x : OkEn) : List Value := x.1.row
def okCmp (x y : OkEn) : Int := x.1.a0 - y.1.a0
theorem okLt (x y : OkEn) : Go.Proofs.ltOf okCmp x y = decide (x.1.a0 < y.1.a0) := by
  unfold Go.Proofs.ltOf okCmp
  rw [Bool.eq_iff_iff, decide_eq_true_iff, decide_eq_true_iff]
  constructor <;> intro h <;> omega
theorem okSwo : Go.Sort.SWO (Go.Proofs.ltOf okCmp) where
  irrefl x := by rw [okLt]; simp
  trans x y z h1 h2 := by
    rw [okLt, decide_eq_true_iff] at *
    omega
  ntrans x y z h1 h2 := by
    rw [okLt, decide_eq_false_iff_not] at *
    omega

set_option maxHeartbeats 1000000 in
theorem allCmp_any (x y : En) (hx : x.ok = true) (hy : y.ok = true) (W : World) :
    Calls Try.prog 46 #[.agg #[.int .i64 x.a0, .int .i64 x.a1, .int .i64 x.a2, .int .i64 x.a3, .int .i64 x.a4, .int .i64 x.a5, .int .i64 x.a6, .int .i64 x.a7, .int .i64 x.a8, .int .i64 x.a9, .int .i64 x.a10, .int .i64 x.l, .int .i64 x.i, .bool x.bk], .agg #[.int .i64 y.a0, .int .i64 y.a1, .int .i64 y.a2, .int .i64 y.a3, .int .i64 y.a4, .int .i64 y.a5, .int .i64 y.a6, .int .i64 y.a7, .int .i64 y.a8, .int .i64 y.a9, .int .i64 y.a10, .int .i64 y.l, .int .i64 y.i, .bool y.bk]] W fun e w' => e = .returned (.int .i64 (x.a0 - y.a0)) ∧ ∃ q os', w' = Go.Sort.grow (W.drewN q) os' := by
  have hx0 := En.ok_serial hx
  have hy0 := En.ok_serial hy
  have ew : IntKind.i64.wrap (x.a0 - y.a0) = x.a0 - y.a0 := IntWalk.i64_in _ (by omega)
  have HX := Lib.hid (And.intro hx hy)
  clear hx hy
  go_enter Try.func46, Try.ntmps46
  go_wp2
  go_ret
  exact ⟨rfl, 0, _, by rw [Go.Sort.alloc_eq_grow, Go.Sort.alloc_eq_grow, Go.Sort.grow_grow]; rfl⟩
theorem sortEn_nil (p : Option Addr) (cap : Nat) (fv : Value) (w : World) :
    Calls Try.prog 45 #[.slice p 0 cap, fv] w fun e w' => e = .returned (.tuple #[]) ∧ w' = w := by
  have h := AnyF.slices_SortFunc_none sortEn p cap fv w
  exact h
theorem isAggEn (w : World) : (isAgg 37).run Try.prog w = .ok true w := Try.isAgg37 w
theorem sizeOfEn (w : World) : (Go.sizeOf 37).run Try.prog w = .ok 14 w := Try.sizeOf37 w
theorem row_one (e : En) : ∀ v ∈ e.row, v.oneCell' = true := by
  intro v hv
  simp only [En.row, List.mem_cons, List.not_mem_nil, or_false] at hv
  rcases hv with rfl | rfl | rfl | rfl | rfl | rfl | rfl | rfl | rfl | rfl | rfl | rfl | rfl | rfl <;> rfl
theorem sortEn_any (blk cap : Nat) (d : Array OkEn) (w : World) (hH : Go.Sort.HoldsK okRow 14 w blk 0 d) (hblk : blk < w.heap.size) (hsz : d.size < 4611686018427387904) :
    Calls Try.prog 45 #[.slice (some ⟨blk, 0, none⟩) d.size cap, .func (.func 46) #[] #[]] w fun e w' =>
      e = .returned (.tuple #[]) ∧ ∃ d' n os, Go.Sort.PermIn 0 d.size d d' ∧ Go.Sort.SortedIn (Go.Proofs.ltOf okCmp) 0 d.size d' ∧ w' = Go.Proofs.sortWorldK okRow 14 w blk 0 n d' os := by
  have eg : ∀ args w, (callFunc 46 args).run Try.prog w = .ok (.enter 46 args) w := enters_of Try.func46 (by kernel_rfl) rfl
  have h := AnyQ.slices_SortFunc sortEn 14 isAggEn sizeOfEn okRow (fun _ => rfl) (fun x => row_one x.1) okCmp okSwo 46 #[] blk 0 cap d w eg (fun m os dk _ x y => allCmp_any x.1 y.1 x.2 y.2 _) hH hblk hsz
  exact h
end Go.Proofs.Ytpmfmkkifkpdcaa

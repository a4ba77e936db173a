/- Layer 24, the reference: two rows of the same entries are the same. No condition. -/
import Derived.Test.YtpmfmkkifkpdcaaLedAll
import Derived.Deep.QuietTactic
import Derived.BigQuiet
namespace Go.Proofs.Ytpmfmkkifkpdcaa
open Go.RowKit Go.Maps
set_option linter.unusedVariables false
set_option maxRecDepth 100000
set_option linter.unusedSimpArgs false

/-- The fourteen cells of an entry, as the walk asks for them. -/
theorem EnAt.cells {w : World} {p : Addr} {e : En} (h : EnAt w p e) : w.cell? p = some (.int .i64 e.a0) ∧ w.cell? ⟨p.block, p.off + 1, none⟩ = some (.int .i64 e.a1) ∧ w.cell? ⟨p.block, p.off + 2, none⟩ = some (.int .i64 e.a2) ∧ w.cell? ⟨p.block, p.off + 3, none⟩ = some (.int .i64 e.a3) ∧ w.cell? ⟨p.block, p.off + 4, none⟩ = some (.int .i64 e.a4) ∧ w.cell? ⟨p.block, p.off + 5, none⟩ = some (.int .i64 e.a5) ∧ w.cell? ⟨p.block, p.off + 6, none⟩ = some (.int .i64 e.a6) ∧ w.cell? ⟨p.block, p.off + 7, none⟩ = some (.int .i64 e.a7) ∧ w.cell? ⟨p.block, p.off + 8, none⟩ = some (.int .i64 e.a8) ∧ w.cell? ⟨p.block, p.off + 9, none⟩ = some (.int .i64 e.a9) ∧ w.cell? ⟨p.block, p.off + 10, none⟩ = some (.int .i64 e.a10) ∧ w.cell? ⟨p.block, p.off + 11, none⟩ = some (.int .i64 e.l) ∧ w.cell? ⟨p.block, p.off + 12, none⟩ = some (.int .i64 e.i) ∧ w.cell? ⟨p.block, p.off + 13, none⟩ = some (.bool e.bk) :=
  ⟨h.1, h.2 0 _ rfl, h.2 1 _ rfl, h.2 2 _ rfl, h.2 3 _ rfl, h.2 4 _ rfl, h.2 5 _ rfl, h.2 6 _ rfl, h.2 7 _ rfl, h.2 8 _ rfl, h.2 9 _ rfl, h.2 10 _ rfl, h.2 11 _ rfl, h.2 12 _ rfl⟩
theorem RdE.at_ {w : World} {A : Option Addr} {S : List En} (h : RdE w A S) {j : Nat} (hj : j < S.length) : ∃ ad, A = some ad ∧ EnAt w (ad.add (j * 14)) S[j] := by
  rcases h with rfl | ⟨ad, e, _, hk⟩
  · simp at hj
  · exact ⟨ad, e, hk j hj⟩

set_option maxHeartbeats 2000000 in
theorem refSame_any (A B : Option Addr) (c d : Nat) (S : List En) (w : World) (hA : RdE w A S) (hB : RdE w B S) (hl : S.length ≤ 1000) :
    Calls Try.prog 24 #[.slice A S.length c, .slice B S.length d] w fun r w' => r = .returned (.bool true) ∧ Below w.heap.size w w' := by
  go_enter Try.func24, Try.ntmps24
  go_wp2
  go_loopw [5] (fun i wr => ∃ k : Nat, k ≤ S.length ∧ i = .int .i64 k ∧ Hid (Below w.heap.size w wr)) (fun i _ => S.length - (intOf i).toNat)
  case atStart => exact ⟨0, Nat.zero_le _, rfl, Lib.hid (bR w)⟩
  case round =>
    obtain ⟨k, hk, rfl, hb⟩ := hrel
    by_cases hlt : k < S.length
    · obtain ⟨ad, rfl, ha⟩ := (hA.below hb.out (Nat.le_refl _)).at_ hlt
      obtain ⟨bd, rfl, hb2⟩ := (hB.below hb.out (Nat.le_refl _)).at_ hlt
      obtain ⟨e, he⟩ : ∃ e, S[k] = e := ⟨_, rfl⟩
      rw [he] at ha hb2
      obtain ⟨x0, x1, x2, x3, x4, x5, x6, x7, x8, x9, x10, x11, x12, x13⟩ := ha.cells
      obtain ⟨y0, y1, y2, y3, y4, y5, y6, y7, y8, y9, y10, y11, y12, y13⟩ := hb2.cells
      clear ha hb2 he
      go_wp2
      go_quiet (fail)
      go_wp2
      go_roundw
      case rel => exact ⟨k + 1, by omega, by go_num, Lib.hid (bN hb.out nq)⟩
      case measure => simp [intOf]; omega
    · go_wp2
      go_ret
      exact ⟨rfl, hb.out⟩
end Go.Proofs.Ytpmfmkkifkpdcaa

/- Layer 17: what tlv.Get computes. No condition. -/
import Derived.Test.YtachkhjbckapoaaT41
namespace Go.Proofs.Ytachkhjbckapoaa
open Go.RowKit
set_option linter.unusedVariables false
set_option maxRecDepth 100000
set_option linter.unusedSimpArgs false

theorem tlvGo_fuel : ∀ (f1 f2 : Nat) (last : Int) (q : List Int) (acc : List Fd), q.length < f1 → q.length < f2 → tlvGo f1 last q acc = tlvGo f2 last q acc
  | 0, f2, last, q, acc, h, _ => by omega
  | f1 + 1, 0, last, q, acc, _, h => by omega
  | f1 + 1, f2 + 1, last, [], acc, _, _ => rfl
  | f1 + 1, f2 + 1, last, [_], acc, _, _ => rfl
  | f1 + 1, f2 + 1, last, a :: b :: t, acc, h1, h2 => by
    unfold tlvGo
    simp only [List.length_cons] at h1 h2
    by_cases g1 : a ≤ last
    · rw [if_pos g1, if_pos g1]
    rw [if_neg g1, if_neg g1]
    by_cases g2 : t.length < b.toNat
    · rw [if_pos g2, if_pos g2]
    rw [if_neg g2, if_neg g2]
    exact tlvGo_fuel f1 f2 a _ _ (by rw [List.length_drop]; omega) (by rw [List.length_drop]; omega)
/-- A row of fields whose values lie in the first world. -/
def OwnV (w : World) (base : Nat) (wr : World) (v : Value) (L : List Fv) : Prop :=
  wr.ownsRow base 67 2 v L.length (fvCells L) ∧ ∀ x ∈ L, x.f.val.length ≤ x.c ∧ x.c ≤ 9223372036854775807 ∧ RdI w .u8 x.B x.f.val ∧ ∀ b ∈ x.f.val, 0 ≤ b ∧ b < 256
theorem OwnV.rdF {w : World} {base : Nat} {wr : World} {v : Value} {L : List Fv} (h : OwnV w base wr v L) (hb : Below w.heap.size w wr) : ∃ A c, v = .slice A L.length c ∧ L.length ≤ c ∧ c ≤ 9223372036854775807 ∧ RdF wr A (L.map (·.f)) := by
  rcases h.1.2 with ⟨rfl, h0⟩ | ⟨g, cap, cur, rfl, _, hh, h1, h2, _⟩
  · obtain rfl := List.eq_nil_of_length_eq_zero h0
    exact ⟨none, 0, rfl, Nat.le_refl _, by omega, .inl rfl⟩
  · refine ⟨some ⟨g, 0, none⟩, cap, rfl, h1, by unfold maxLen at h2; omega, .inr ⟨_, rfl, (h.1.lt g rfl).2, fun j hj => ?_⟩⟩
    rw [List.length_map] at hj
    obtain ⟨e0, e1⟩ := fvCells_at L j hj
    have c0 := h.1.cells rfl _ _ e0
    have c1 := h.1.cells rfl _ _ e1
    obtain ⟨k1, k2, k3, k4⟩ := h.2 _ (List.getElem_mem hj)
    rw [List.getElem_map]
    have ea : ∀ i, (⟨g, 0, none⟩ : Addr).add i = ⟨g, i, none⟩ := by intro i; unfold Addr.add; by_cases hi : i = 0 <;> simp [hi]
    rw [ea] at c0 c1
    rw [ea, Nat.mul_comm j 2]
    exact ⟨L[j].B, L[j].c, c0, c1, k1, k2, k3.below hb, k4⟩
theorem OwnV.keep {w : World} {base g : Nat} {wr w2 : World} {v : Value} {L : List Fv} {cs : Array Value} {T : TypeId} {fr : Nat × Nat} (h : OwnV w base wr v L) (hg : wr.heap[g]? = some (.cells cs T fr)) (hT : T ≠ 67) (hs : wr.heap.size ≤ w2.heap.size) (hk : ∀ b, b < wr.heap.size → b ≠ g → w2.heap[b]? = wr.heap[b]?) : OwnV w base w2 v L := by
  obtain ⟨⟨h1, h2⟩, h3⟩ := h
  refine ⟨⟨by omega, h2.imp id fun ⟨k, cap, cur, e1, e2, e3, e4⟩ => ⟨k, cap, cur, e1, e2, (hk k (Array.getElem?_eq_some_iff.1 e3).1 ?_).trans e3, e4⟩⟩, h3⟩
  rintro rfl
  rw [hg] at e3
  injection e3 with e3
  injection e3 with _ e5 _
  exact hT e5
/-- What a call returns that reads fields: a slice of them, and an error. -/
def TlvRet (r : List Fd × Int) (w : World) (e : Ending) (w' : World) : Prop :=
  ∃ (A : Option Addr) (c : Nat), e = .returned (.tuple #[.slice A r.1.length c, .int .i64 r.2]) ∧ r.1.length ≤ c ∧ c ≤ 9223372036854775807 ∧ RdF w' A r.1 ∧ Below w.heap.size w w'
theorem lenCell_row {W : World} {b n c : Nat} {t : TypeId} {A : Option Addr} {v : Value} (h : W.heap[b]? = some (.cells #[.slice A n c, v] t (0, 0))) : lenCell W b = n := by
  unfold lenCell
  rw [cell_of_row W b 0 _ _ _ h]
  rfl

set_option maxHeartbeats 8000000 in
theorem tlvGet_any (A : Option Addr) (c : Nat) (l : List Int) (w : World) (hr : RdI w .u8 A l) (hlc : l.length ≤ c) (hc9 : c ≤ 9223372036854775807) (hb : ∀ x ∈ l, 0 ≤ x ∧ x < 256) :
    Calls Try.prog 87 #[.slice A l.length c] w (TlvRet (tlvGet l) w) := by
  obtain ⟨i0, hi, hz0, hz1, hz2'⟩ := info_parts infoFd
  have hmf : ∀ (fn : Fn) (first cap : Array Value) (w : World), (Instr.makeFunc fn first cap).run Try.prog w = .ok (.func fn first cap) w := fun _ _ _ _ => rfl
  obtain ⟨rv, hrv⟩ : ∃ rv, tlvGet l = rv := ⟨_, rfl⟩
  rw [hrv]
  have hg0 := heap_alloc_new w (.cells #[.slice A l.length c, .int .i64 0] 141)
  obtain ⟨n, hn⟩ : ∃ n, l.length = n := ⟨_, rfl⟩
  have H0 : Hid (∀ fuel, l.length < fuel → tlvGo fuel 0 l [] = rv) := Lib.hid fun fuel hf => by rw [← hrv]; unfold tlvGet; exact tlvGo_fuel _ _ _ _ _ hf (by omega)
  have HR := Lib.hid hr
  have HN := Lib.hid hn
  have HBY := Lib.hid hb
  have HL := Lib.hid hlc
  rw [hn] at hg0 ⊢
  clear hrv hr hb hn hlc
  go_enter Try.func87, Try.ntmps87
  go_wp2
  go_loopw [6, 7, 8] (fun out _ _ wr => ∃ (q : List Int) (A2 : Option Addr) (c2 : Nat) (last : Int) (L : List Fv), wr.heap[w.heap.size]? = some (.cells #[.slice A2 q.length c2, .int .i64 last] 141 (0, 0)) ∧ Hid (RdI w .u8 A2 q ∧ q.length ≤ c2 ∧ c2 ≤ 9223372036854775807 ∧ ∀ x ∈ q, 0 ≤ x ∧ x < 256) ∧ OwnV w (w.heap.size + 1) wr out L ∧ (0 ≤ last ∧ last < 256 ∧ (L.length : Int) ≤ last) ∧ Hid (∀ fuel, q.length < fuel → tlvGo fuel last q (L.map (·.f)) = rv) ∧ Below w.heap.size w wr) (fun _ _ _ wr => lenCell wr w.heap.size)
  case atStart => exact ⟨l, A, c, 0, [], by rw [HN.out]; exact hg0, Lib.hid ⟨HR.out, HL.out, hc9, HBY.out⟩, ⟨World.ownsRow_nil _ _ _ _, by simp⟩, ⟨by omega, by omega, by simp⟩, H0, bel1 _ _⟩
  case round =>
    obtain ⟨q, A2, c2, last, L, hg, hq, hO, hla, hgo, hbW⟩ := hrel
    have hcg := cell_of_row wr w.heap.size 0 _ _ _ hg
    obtain ⟨hq1, hq2, hq3, hq4⟩ := hq.out
    rcases q with _ | ⟨a, _ | ⟨b, t⟩⟩
    · have HE := Lib.hid (hgo.out 1 (by simp))
      have hcg2 : wr.cell? ⟨w.heap.size, 0, none⟩ = some (.slice A2 0 c2) := hcg
      clear hcg
      obtain ⟨Av, cv, rfl, v1, v2, v3⟩ := hO.rdF hbW
      have HV := Lib.hid v3
      clear hO hg hq hgo hq1 hq2 hq3 hq4 v3
      go_wp2
      go_ret2
      have e : rv = (L.map (·.f), 0) := by rw [← HE.out]; rfl
      rw [e]
      exact ⟨Av, cv, by rw [List.length_map] <;> rfl, by rw [List.length_map]; exact v1, v2, HV.out, hbW⟩
    · have HE := Lib.hid (hgo.out 2 (by simp))
      have hcg2 : wr.cell? ⟨w.heap.size, 0, none⟩ = some (.slice A2 1 c2) := hcg
      clear hcg
      have D := next_short w.heap.size A2 c2 [a] last w wr hg hbW (by simp)
      clear hO hg hq hgo hq1 hq2 hq3 hq4
      go_wp2_with (go_at_call 122; (with_reducible refine D.mono ?_); rintro e w2 ⟨rfl, hb2⟩)
      go_ret2
      have e : rv = ([], 14) := by rw [← HE.out]; rfl
      rw [e]
      exact ⟨none, 0, rfl, by simp, by omega, .inl rfl, bA hb2 _⟩
    · have ha := hq4 a (by simp)
      have hb0 := hq4 b (by simp)
      have HE := Lib.hid (hgo.out ((a :: b :: t).length + 1) (by simp))
      obtain ⟨m, rfl⟩ := Int.eq_ofNat_of_zero_le hb0.1
      obtain ⟨n2, hn2⟩ : ∃ n2, (a :: (m : Int) :: t).length = n2 := ⟨_, rfl⟩
      have hn20 : (0 : Int) < (n2 : Int) := by simp at hn2; omega
      have hcg2 : wr.cell? ⟨w.heap.size, 0, none⟩ = some (.slice A2 n2 c2) := by rw [← hn2]; exact hcg
      have e := HE.out
      unfold tlvGo at e
      clear hcg HE
      by_cases g1 : a ≤ last
      · rw [if_pos g1] at e
        have HE := Lib.hid e
        have D := next_order w.heap.size A2 c2 a m t last w wr hg hbW hq1 ha hb0 g1
        clear hO hg hq hgo hq1 hq2 hq3 hq4 e g1
        go_wp2_with (go_at_call 122; (with_reducible refine D.mono ?_); rintro e w2 ⟨rfl, hb2⟩)
        go_ret2
        rw [← HE.out]
        exact ⟨none, 0, rfl, by simp, by omega, .inl rfl, bA hb2 _⟩
      rw [if_neg g1] at e
      by_cases g2 : t.length < m
      · rw [Int.toNat_natCast, if_pos g2] at e
        have HE := Lib.hid e
        have D := next_long w.heap.size A2 c2 a m t last w wr hg hbW hq1 ha hb0 g1 (by rw [Int.toNat_natCast]; exact g2)
        clear hO hg hq hgo hq1 hq2 hq3 hq4 e g1 g2
        go_wp2_with (go_at_call 122; (with_reducible refine D.mono ?_); rintro e w2 ⟨rfl, hb2⟩)
        go_ret2
        rw [← HE.out]
        exact ⟨none, 0, rfl, by simp, by omega, .inl rfl, bA hb2 _⟩
      · rw [Int.toNat_natCast, if_neg g2] at e
        have HE := Lib.hid e
        have D := next_ok w.heap.size A2 c2 a m t last w wr hg hbW (Nat.le_refl _) hq1 ha (by omega) g1 (by omega) hq2 hq3
        have HLA := Lib.hid (show (0 : Int) ≤ a ∧ a < 256 ∧ ((L.length + 1 : Nat) : Int) ≤ a by omega)
        have hLL : L.length ≤ 255 := by omega
        have HTT := Lib.hid (show n2 = t.length + 2 ∧ m ≤ t.length by simp at hn2; omega)
        have HB4 := Lib.hid hq4
        have HG := Lib.hid hg
        have HO := Lib.hid hO
        have HG2z : ∀ {w2 : World}, wr.heap.size ≤ w2.heap.size → w.heap.size < w2.heap.size := fun h => Nat.lt_of_lt_of_le (Array.getElem?_eq_some_iff.1 hg).1 h
        clear hO hg hq hgo hq1 hq2 hq3 hq4 e g1 g2 hn2
        go_wp2_with (first | (go_at_call 122; (with_reducible refine D.mono ?_); rintro e w2 ⟨A3, A4, c4, rfl, hg2, r3, r4, l4, l9, hb2, hz2, hk2⟩; have hO2 := HO.out.keep HG.out (by decide) hz2 hk2; have hn3 := fcells_new (w2.alloc (.cells #[.int .i64 a, .slice A3 m m] 67)) [.int .i64 a, .slice A3 m m] 67; rw [World.size_alloc] at hn3; have hzb := HG2z hz2; have HG2 := Lib.hid hg2; have HN3 := Lib.hid hn3; have HO2 := Lib.hid hO2; have HB2 := Lib.hid hb2; clear hg2 hn3 hO2 hk2) | (at_builtin; refine wpList_append_own_at _ rfl _ _ 50 rfl (w.heap.size + 1) 67 i0 (.agg #[.int .i64 0, .slice none 0 0]) 2 32 Try.underlying50 hi hz0 hz1 hz2' rfl (by decide) _ L.length (fvCells L) rfl (own_below (own_below HO2.out.1 (bel1 _ _)) (bel1 _ _)) ⟨w2.heap.size + 1, 0, none⟩ 1 1 [.int .i64 a, .slice A3 m m] rfl rfl HN3.out ?_ ?_ ?_ ?_ ?_; (focus (simp [Value.oneCell'])); (focus (exact maxLen_ge (by omega))); (focus (omega)); (focus (simp; omega)); intro v5 w5 ho5 hg5 _ ha5))
        obtain ⟨e1, e2⟩ := HTT.out
        have hml : (t.take m).length = m := by rw [List.length_take]; omega
        have hrow : w5.heap[w.heap.size]? = some (.cells #[.slice A4 (t.drop m).length c4, .int .i64 a] 141 (0, 0)) := by
          rw [List.length_drop]
          refine (hg5.block w.heap.size (by simp; omega) (fun h => by have := own_ge HO2.out.1 _ h.symm; omega)).trans ?_
          exact (Below.heap_alloc _ _ _ (by simp; omega)).trans ((Below.heap_alloc _ _ _ (by omega)).trans HG2.out)
        refine ⟨⟨t.drop m, A4, c4, a, L ++ [⟨⟨a, t.take m⟩, A3, m⟩], hrow, Lib.hid ⟨r4, by rw [List.length_drop]; exact l4, l9, fun x hx => HB4.out x (by simp [List.mem_of_mem_drop hx])⟩, ⟨?_, fun x hx => ?_⟩, ?_, Lib.hid fun fuel hf => ?_, bG (bA (bA HB2.out _) _) hg5 (fun k hk => Nat.le_of_succ_le (own_ge HO2.out.1 k hk))⟩, ?_⟩
        · rw [fvCells_snoc, List.length_append]
          show w5.ownsRow _ _ 2 v5 (L.length + 1) (fvCells L ++ [.int .i64 a, .slice A3 (t.take m).length m])
          rw [hml]
          exact ho5
        · rcases List.mem_append.1 hx with hx | hx
          · exact HO2.out.2 x hx
          · obtain rfl := List.mem_singleton.1 hx
            exact ⟨by show (t.take m).length ≤ m; omega, by show m ≤ 9223372036854775807; omega, r3, fun x hx => HB4.out x (by simp [List.mem_of_mem_take hx])⟩
        · rw [List.length_append]; exact HLA.out
        · rw [List.map_append]
          refine (tlvGo_fuel _ _ _ _ _ hf ?_).trans HE.out
          rw [List.length_drop]; simp; omega
        · rw [lenCell_row hrow, lenCell_row HG.out, List.length_drop]; simp; omega
end Go.Proofs.Ytachkhjbckapoaa

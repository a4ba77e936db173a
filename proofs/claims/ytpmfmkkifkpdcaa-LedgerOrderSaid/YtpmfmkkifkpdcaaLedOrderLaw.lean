/- Layer 24's law LedgerOrder, walked: entries of unlike serials make the same ledger in whatever order. No condition beyond the example's. -/
import Derived.Test.YtpmfmkkifkpdcaaLedOrderP
namespace Go.Proofs.Ytpmfmkkifkpdcaa
open Go.RowKit Go.Maps
set_option linter.unusedVariables false
set_option maxRecDepth 100000
set_option linter.unusedSimpArgs false

theorem two_new (w w1 w2 : World) (h1 : Led w1 (w.heap.size + 1) w.heap.size 64 []) (hb1 : Below w.heap.size w w1) (h2 : Led w2 (w1.heap.size + 1) w1.heap.size 64 []) (hb2 : Below w1.heap.size w1 w2) :
    Led w2 (w.heap.size + 1) w.heap.size 64 [] ∧ Below w.heap.size w w2 ∧ w.heap.size + 1 < w1.heap.size := ⟨h1.below hb2 (Nat.le_refl _), bT hb1 hb2, h1.lt⟩

set_option maxHeartbeats 4000000 in
theorem ledgerOrder_no (A : Option Addr) (c n : Nat) (w : World) (hk : KeptSays) (h : 60 < n) :
    Calls Try.prog 6 #[.slice A n c] w fun r w' => r = .returned (.bool true) ∧ Below w.heap.size w w' := by
  have h2 : decide ((60 : Int) < (n : Int)) = true := by simp; omega
  go_enter Try.func6, Try.ntmps6
  go_wp2_with (first
    | (go_at_call 11; (with_reducible refine (ledNew_any 64 _ (by decide) (by decide)).mono ?_); rintro r w1 ⟨rfl, _, hb1⟩)
    | (go_at_call 23; (refine (hk _).mono ?_); rintro r w9 ⟨rfl, hb9⟩))
  go_ret
  exact ⟨rfl, (by repeat (first | (with_reducible exact bR _) | (with_reducible refine bT ?_ (by assumption)) | (with_reducible apply bA) | (with_reducible apply bD) | (with_reducible apply bN) | (with_reducible refine bS ?_ (by first | omega | (simp; done) | (simp; omega)))))⟩

set_option maxHeartbeats 8000000 in
set_option maxRecDepth 100000 in
theorem ledgerOrder_yes (A : Option Addr) (c : Nat) (l : List En) (w : World) (hk : KeptSays) (hr : RdE w A l) (hl : l.length ≤ 60) :
    Calls Try.prog 6 #[.slice A l.length c] w fun r w' => r = .returned (.bool true) ∧ Below w.heap.size w w' := by
  have h2 : decide ((60 : Int) < (l.length : Int)) = false := by simp; omega
  have HA := Lib.hid hr
  clear hr
  go_enter Try.func6, Try.ntmps6
  go_wp2_with fail
  refine (ledNew_any 64 _ (by decide) (by decide)).mono ?_
  rintro r w1 ⟨rfl, hL1, hb1⟩
  go_wp2_with fail
  refine (ledNew_any 64 _ (by decide) (by decide)).mono ?_
  rintro r w2 ⟨rfl, hL2, hb2⟩
  obtain ⟨hL3, hb3, hlt1⟩ := two_new w w1 w2 hL1 hb1 hL2 hb2
  have HX := Lib.hid hL3
  have HY := Lib.hid hL2
  have HB := Lib.hid hb3
  have HLT := Lib.hid hlt1
  have HSZ := Lib.hid hb2.size
  have HB1 := Lib.hid hb1.size
  obtain ⟨gx, hgx⟩ : ∃ gx, w.heap.size + 1 = gx := ⟨_, rfl⟩
  obtain ⟨gy, hgy⟩ : ∃ gy, w1.heap.size + 1 = gy := ⟨_, rfl⟩
  obtain ⟨bx, hbx⟩ : ∃ bx, w.heap.size = bx := ⟨_, rfl⟩
  obtain ⟨b_y, hby⟩ : ∃ b_y, w1.heap.size = b_y := ⟨_, rfl⟩
  have HN : Hid (bx ≠ gy ∧ bx ≠ b_y ∧ b_y ≠ gx ∧ b_y ≠ bx ∧ w.heap.size ≤ bx ∧ w.heap.size ≤ b_y) := Lib.hid (by omega)
  rw [hgx, hbx] at HX
  rw [hgy, hby] at HY
  rw [hgx, hgy]
  clear hL1 hb1 hL2 hb2 hL3 hb3 hlt1 hgx hgy hbx hby HLT HSZ HB1
  go_wp2_with fail
  go_loopw [7] (fun i wr => ∃ k : Nat, k ≤ l.length ∧ i = .int .i64 k ∧ Hid (Led wr gx bx 64 (adds 64 (l.take k))) ∧ Hid (Led wr gy b_y 64 []) ∧ Hid (∀ p q, (hp : p < l.length) → (hq : q < l.length) → p < q → q < k → l[p].a0 ≠ l[q].a0) ∧ Hid (Below w.heap.size w wr)) (fun i _ => l.length - (intOf i).toNat)
  case atStart => exact ⟨0, Nat.zero_le _, rfl, HX, HY, Lib.hid (fun p q _ _ _ h => by omega), HB⟩
  case round =>
    obtain ⟨k, hkl, rfl, hX, hY, hD, hB⟩ := hrel
    by_cases hlt : k < l.length
    · obtain ⟨wo, rfl⟩ : ∃ wo : World, wo = wr := ⟨_, rfl⟩
      obtain ⟨e, he⟩ : ∃ e, l[k] = e := ⟨_, rfl⟩
      have HE := Lib.hid he
      clear he
      have HT := Lib.hid (adds_take 64 l k hlt)
      rw [HE.out] at HT
      go_wp2_with fail
      go_loopw [8] (fun j wi => ∃ m : Nat, m ≤ k ∧ j = .int .i64 m ∧ Hid (Led wi gx bx 64 (adds 64 (l.take k))) ∧ Hid (Led wi gy b_y 64 []) ∧ Hid (∀ q, (hq : q < l.length) → q < m → l[q].a0 ≠ e.a0) ∧ Hid (Below w.heap.size w wi)) (fun j _ => k - (intOf j).toNat)
      case atStart => exact ⟨0, Nat.zero_le _, rfl, hX, hY, Lib.hid (fun q _ h => by omega), hB⟩
      case round =>
        clear hX hY hB
        obtain ⟨m, hmk, rfl, hX, hY, hQ, hB⟩ := hrel
        obtain ⟨ad, rfl, ha⟩ := (HA.out.below hB.out (Nat.le_refl _)).at_ hlt
        rw [HE.out] at ha
        by_cases hmlt : m < k
        · have hml : m < l.length := by omega
          obtain ⟨ad2, hq2, hm⟩ := (HA.out.below hB.out (Nat.le_refl _)).at_ hml
          obtain rfl := Option.some.inj hq2
          obtain ⟨f, hf⟩ : ∃ f, l[m] = f := ⟨_, rfl⟩
          have x1 := ha.1
          have x2 := hm.1
          rw [hf] at x2
          have HF := Lib.hid hf
          clear ha hm hf hq2
          by_cases hfe : f.a0 = e.a0
          · have d : (f.a0 == e.a0) = true := by simpa using hfe
            clear hfe
            go_wp2
            go_quiet (fail)
            go_wp2_with (go_at_call 23; (refine (hk _).mono ?_); rintro r w9 ⟨rfl, hb9⟩)
            go_ret
            exact ⟨rfl, bT (bN hB.out nq) hb9⟩
          · have d : (f.a0 == e.a0) = false := by simpa using hfe
            have HFE := Lib.hid hfe
            clear hfe
            go_wp2
            go_quiet (fail)
            go_wp2
            go_roundw
            case rel => exact ⟨m + 1, by omega, by go_num, Lib.hid (hX.out.keep rfl rfl), Lib.hid (hY.out.keep rfl rfl), Lib.hid (fun q hq h => by
              by_cases hqm : q = m
              · subst hqm; rw [HF.out]; exact HFE.out
              · exact hQ.out q hq (by omega)), Lib.hid (bN hB.out nq)⟩
            case measure => simp [intOf]; omega
        · have hmk' : m = k := by omega
          obtain ⟨x0, x1, x2, x3, x4, x5, x6, x7, x8, x9, x10, x11, x12, x13⟩ := ha.cells
          have HQ := Lib.hid (show ∀ q, (hq : q < l.length) → q < k → l[q].a0 ≠ e.a0 from by rw [← hmk']; exact hQ.out)
          have dm : decide ((m : Int) < (k : Int)) = false := by simp; omega
          clear ha hmk' hQ
          go_wp2_with (go_at_call 15; (with_reducible refine (ledAdd_any gx bx 64 (adds 64 (l.take k)) e _ hX.out).mono ?_); rintro r w3 ⟨rfl, hL2, hg2⟩; have HX2 := Lib.hid hL2; have HY2 := Lib.hid (hY.out.keep (hg2.block gy hY.out.lt (fun e => HN.out.1 (Option.some.inj e).symm)) (hg2.block b_y hY.out.ltb (fun e => HN.out.2.1 (Option.some.inj e).symm))); have HB2 := Lib.hid (hB.out.trans (below_of_grown hg2 hB.out.size HN.out.2.2.2.2.1)); clear hL2 hg2)
          go_roundw
          case rel => exact ⟨k + 1, by omega, by go_num, by rw [HT.out]; exact HX2, HY2, Lib.hid (fun p q hp hq h1 h2 => by
            by_cases hqk : q = k
            · subst hqk; rw [HE.out]; exact HQ.out p hp h1
            · exact hD.out p q hp hq h1 (by omega)), HB2⟩
          case measure => simp [intOf]; omega
    · have hkl' : k = l.length := by omega
      have HND := Lib.hid (nodup_of_pairs l (fun p q hp hq h => hD.out p q hp hq h (by omega)))
      obtain ⟨S, hS⟩ : ∃ S, adds 64 l = S := ⟨_, rfl⟩
      have HS := Lib.hid hS
      rw [hkl', List.take_length, hS] at hX
      have dk : decide ((k : Int) < (l.length : Int)) = false := by simp; omega
      have HRV := Lib.hid ((adds_reverse HND.out (by omega)).trans hS)
      have ew : IntKind.i64.wrap ((l.length : Int) - 1) = (l.length : Int) - 1 := IntWalk.i64_in _ (by omega)
      clear hD hS hkl'
      go_wp2_with fail
      go_loopw [9] (fun i wr => ∃ (m : Nat) (z : Int), m ≤ l.length ∧ i = .int .i64 z ∧ z + 1 = m ∧ Hid (Led wr gx bx 64 S) ∧ Hid (Led wr gy b_y 64 (adds 64 (l.drop m).reverse)) ∧ Hid (Below w.heap.size w wr)) (fun i _ => (intOf i + 1).toNat)
      case atStart => exact ⟨l.length, _, Nat.le_refl _, rfl, by omega, hX, by rw [List.drop_length]; exact hY, hB⟩
      case round =>
        clear hX hY hB
        obtain ⟨m, z, hml, rfl, hz, hX, hY, hB⟩ := hrel
        by_cases hz0 : 0 ≤ z
        · obtain ⟨p, rfl⟩ := Int.eq_ofNat_of_zero_le hz0
          have hmp : m = p + 1 := by omega
          have hpl : p < l.length := by omega
          have HT := Lib.hid (drop_rev l p hpl)
          obtain ⟨e, he⟩ : ∃ e, l[p] = e := ⟨_, rfl⟩
          rw [he] at HT
          rw [hmp] at hY
          obtain ⟨ad, rfl, ha⟩ := (HA.out.below hB.out (Nat.le_refl _)).at_ hpl
          rw [he] at ha
          obtain ⟨x0, x1, x2, x3, x4, x5, x6, x7, x8, x9, x10, x11, x12, x13⟩ := ha.cells
          have ewp : IntKind.i64.wrap ((p : Int) - 1) = (p : Int) - 1 := IntWalk.i64_in _ (by omega)
          clear ha he hz hml hmp
          go_wp2_with (go_at_call 15; (with_reducible refine (ledAdd_any gy b_y 64 (adds 64 (l.drop (p + 1)).reverse) e _ hY.out).mono ?_); rintro r w3 ⟨rfl, hL2, hg2⟩; have HY2 := Lib.hid hL2; have HX2 := Lib.hid (hX.out.keep (hg2.block gx hX.out.lt (fun e => HN.out.2.2.1 (Option.some.inj e).symm)) (hg2.block bx hX.out.ltb (fun e => HN.out.2.2.2.1 (Option.some.inj e).symm))); have HB2 := Lib.hid (hB.out.trans (below_of_grown hg2 hB.out.size HN.out.2.2.2.2.2)); clear hL2 hg2)
          go_roundw
          case rel => exact ⟨p, _, by omega, rfl, by omega, HX2, by rw [HT.out, adds_snoc]; exact HY2, HB2⟩
          case measure => simp [intOf]
        · have hm0 : m = 0 := by omega
          rw [hm0, List.drop_zero, HRV.out] at hY
          have dz : decide (0 ≤ z) = false := by simp; omega
          have hS64 := hX.out.len
          clear hm0 hz hml
          go_wp2_with (first
            | (go_at_call 23; (refine (hk _).mono ?_); rintro r w4 ⟨rfl, hb4⟩; have HX4 := Lib.hid (hX.out.below hb4 (Nat.le_refl _)); have HY4 := Lib.hid (hY.out.below hb4 (Nat.le_refl _)); have HB4 := Lib.hid (bT hB.out hb4); clear hb4)
            | (go_at_call 25; (with_reducible refine (ledAll_any gx bx 64 S _ HX4.out).mono ?_); rintro r w5 ⟨A1, c1, rfl, q1, q2, q3, hb5, q5⟩; have HX5 := Lib.hid (HX4.out.below hb5 (Nat.le_refl _)); have HY5 := Lib.hid (HY4.out.below hb5 (Nat.le_refl _)); have HB5 := Lib.hid (bT HB4.out hb5); have HR5 := Lib.hid q3; clear hb5 q3 q5)
            | (go_at_call 25; (with_reducible refine (ledAll_any gy b_y 64 S _ HY5.out).mono ?_); rintro r w6 ⟨A2, c2, rfl, p1, p2, p3, hb6, p5⟩; have HX6 := Lib.hid (HX5.out.below hb6 (Nat.le_refl _)); have HY6 := Lib.hid (HY5.out.below hb6 (Nat.le_refl _)); have HB6 := Lib.hid (bT HB5.out hb6); have HR6 := Lib.hid (HR5.out.below hb6 (Nat.le_refl _)); have HQ6 := Lib.hid p3; clear hb6 p3 p5)
            | (go_at_call 24; (with_reducible refine (refSame_any A1 A2 c1 c2 S _ HR6.out HQ6.out (by omega)).mono ?_); rintro r w7 ⟨rfl, hb7⟩; have HX7 := Lib.hid (HX6.out.below hb7 (Nat.le_refl _)); have HY7 := Lib.hid (HY6.out.below hb7 (Nat.le_refl _)); have HB7 := Lib.hid (bT HB6.out hb7); clear hb7)
            | (go_at_call 19; (with_reducible refine (ledLen_any gx bx 64 S _ HX7.out).mono ?_); rintro r w8 ⟨rfl, hb8⟩; have HY8 := Lib.hid (HY7.out.below hb8 (Nat.le_refl _)); have HB8 := Lib.hid (bT HB7.out hb8); clear hb8)
            | (go_at_call 19; (with_reducible refine (ledLen_any gy b_y 64 S _ HY8.out).mono ?_); rintro r w9 ⟨rfl, hb9⟩; have HB9 := Lib.hid (bT HB8.out hb9); clear hb9))
          go_ret
          exact ⟨by simp, HB9.out⟩
end Go.Proofs.Ytpmfmkkifkpdcaa

/- Layer 19: what barcode.Decode computes. Layer 5, plain: a ring with a key more, and what it finds. No condition. -/
import Derived.Test.YtnbghgenaolfgaaGreatZ24
import Derived.Test.YtnbghgenaolfgaaGreatZ01
namespace Go.Proofs.YtnbghgenaolfgaaGreat
open Go.RowKit
set_option linter.unusedVariables false
set_option maxRecDepth 100000
set_option linter.unusedSimpArgs false

def decG (L N : Nat) : Array Value := #[.func (.func 79) #[] #[.pointer (some ⟨N + 1 + 1, 0, none⟩), .pointer (some ⟨N + 1 + 1 + 1, 0, none⟩)], .func (.func 81) #[] #[.pointer (some ⟨L, 0, none⟩), .pointer (some ⟨N + 1 + 1 + 1, 0, none⟩), .pointer (some ⟨N + 1 + 1 + 1 + 1, 0, none⟩)], .func (.func 82) #[] #[.pointer (some ⟨N + 1 + 1 + 1 + 1, 0, none⟩), .pointer (some ⟨N, 0, none⟩), .pointer (some ⟨N + 1, 0, none⟩)]]
def DecP (ks : List Ky) (bd tg : List Int) (q : List Fd) (L N : Nat) (vb vt vf : Value) (base : World) : Nat → World → Prop
  | 0, W => DecM L N vb vt vf (iv zL).toArray kz (decG L N) base W
  | 1, W => (fgE q).2 = 0 ∧ DecM L N vb vt vf (iv (fgE q).1).toArray kz (decG L N) base W
  | 2, W => ∃ (k : Ky) (Bk : Option Addr) (ck : Nat), ((fgE q).2 = 0 ∧ findE ks ((fgE q).1.getD 11 0) = (some k, 0) ∧ RdI base .u8 Bk k.sec ∧ (∀ x ∈ k.sec, 0 ≤ x ∧ x < 256) ∧ rightB k = true) ∧ DecM L N vb vt vf (iv (fgE q).1).toArray (keyC (some k) Bk ck) (decG L N) base W
  | 3, W => ∃ (k : Ky) (Bk : Option Addr) (ck : Nat), ((fgE q).2 = 0 ∧ findE ks ((fgE q).1.getD 11 0) = (some k, 0) ∧ (tg == tagN k.sec (66 :: bd)) = true) ∧ DecM L N vb vt vf (iv (fgE q).1).toArray (keyC (some k) Bk ck) (decG L N) base W
  | _, _ => False
theorem decM_func {L N k : Nat} {bv' tv fv : Value} {rcs kcs gcs : Array Value} {base W : World} (h : DecM L N bv' tv fv rcs kcs gcs base W) : W.cell? ⟨N + 1 + 1 + 1 + 1 + 1, k, none⟩ = gcs[k]? := cell_of_row _ _ k _ _ _ h.2.2.2.2.2.1
theorem decP_func {ks : List Ky} {bd tg : List Int} {q : List Fd} {L N : Nat} {vb vt vf : Value} {base : World} (n : Nat) (W : World) (h : DecP ks bd tg q L N vb vt vf base n W) (k : Nat) : W.cell? ⟨N + 1 + 1 + 1 + 1 + 1, k, none⟩ = (decG L N)[k]? := by
  match n, h with
  | 0, h => exact decM_func (L := L) h
  | 1, ⟨_, h⟩ => exact decM_func (L := L) h
  | 2, ⟨_, _, _, _, h⟩ => exact decM_func (L := L) h
  | 3, ⟨_, _, _, _, h⟩ => exact decM_func (L := L) h
theorem decSteps_any (A : Option Addr) (c : Nat) (ks : List Ky) (bd tg : List Int) (q : List Fd) (A1 A2 A3 : Option Addr) (c1 c2 c3 L N : Nat) (base W : World) (hr : RdK base A ks) (hl : ks.length ≤ 9223372036854775807) (hL : Boxed base L 22 (.slice A ks.length c))
    (hb : RdI base .u8 A1 bd) (ht : RdI base .u8 A2 tg) (hF : RdF base A3 q) (hbb : ∀ x ∈ bd, 0 ≤ x ∧ x < 256) (htb : ∀ x ∈ tg, 0 ≤ x ∧ x < 256) (hql : q.length ≤ 9223372036854775807) (hbl : bd.length ≤ 65535) (htl : tg.length ≤ 32)
    (h0 : DecP ks bd tg q L N (.slice A1 bd.length c1) (.slice A2 tg.length c2) (.slice A3 q.length c3) base 0 W) :
    Calls Tryz.prog 78 #[.slice (some ⟨N + 1 + 1 + 1 + 1 + 1, 0, none⟩) 3 3] W
      (StepRet (DecP ks bd tg q L N (.slice A1 bd.length c1) (.slice A2 tg.length c2) (.slice A3 q.length c3) base 3) (fun z W' => Below base.heap.size base W' ∧ decF ks bd tg q = (zL, z))) := by
  refine steps_any _ 79 81 82 _ _ _ _ _ W h0 (fun k W' h => ⟨decP_func k W' h 0, decP_func k W' h 1, decP_func k W' h 2⟩) (fun _ => rfl) (fun _ => rfl) (fun _ => rfl) ?_ ?_ ?_
  · intro W' hM
    refine (dec1_any L N _ _ A3 c3 q _ _ _ rfl base W' hF hql hM).mono ?_
    rintro e W2 ⟨rfl, hM2⟩
    refine ⟨_, rfl, fun hz => ⟨hz, hM2⟩, fun hz => ⟨hM2.2.2.2.2.2.2.1, ?_⟩⟩
    unfold decF
    rw [if_pos hz]
  · rintro W' ⟨hz, hM⟩
    refine (dec2_any L N _ _ _ A c ks (fgE q).1 (fgE_len q) _ _ rfl base W' hr hl hL hM).mono ?_
    rintro e W2 ⟨Bk, ck, rfl, hk, hM2⟩
    refine ⟨_, rfl, fun hz2 => ?_, fun hz2 => ⟨hM2.2.2.2.2.2.2.1, ?_⟩⟩
    · cases hf : (findE ks ((fgE q).1.getD 11 0)).1 with
      | none => exact absurd hz2 (findE_none hf)
      | some k =>
        rw [hf] at hM2
        obtain ⟨k1, k2, k3, k4, k5, k6⟩ := hk k hf
        exact ⟨k, Bk, ck, ⟨hz, findE_some hf, k3, k4, k5⟩, hM2⟩
    · unfold decF
      rw [if_neg (fun h => h hz)]
      cases hf : (findE ks ((fgE q).1.getD 11 0)).1 with
      | none => rw [show findE ks ((fgE q).1.getD 11 0) = (none, (findE ks ((fgE q).1.getD 11 0)).2) by rw [← hf]]
      | some k =>
        have := findE_some hf
        rw [this] at hz2
        exact absurd rfl hz2
  · rintro W' ⟨k, Bk, ck, ⟨hz, hf, k3, k4, k5⟩, hM⟩
    obtain ⟨bb, hbe⟩ : ∃ bb, (tg == tagN k.sec (66 :: bd)) = bb := ⟨_, rfl⟩
    refine (dec3_any L N A1 A2 Bk c1 c2 ck bd tg k _ _ _ base W' hb ht k3 hbb htb k4 hbl htl (rightB_len k5).2 bb hbe hM).mono ?_
    rintro e W2 ⟨rfl, hM2⟩
    refine ⟨_, rfl, fun hz2 => ⟨k, Bk, ck, ⟨hz, hf, ?_⟩, hM2⟩, fun hz2 => ⟨hM2.2.2.2.2.2.2.1, ?_⟩⟩
    · cases bb
      · simp at hz2
      · exact hbe
    · unfold decF
      rw [if_neg (fun h => h hz), hf]
      cases bb
      · simp only
        rw [if_neg (by rw [hbe]; simp)]
        rfl
      · simp at hz2
theorem decF_ok {ks : List Ky} {bd tg : List Int} {q : List Fd} {k : Ky} (h1 : (fgE q).2 = 0) (h2 : findE ks ((fgE q).1.getD 11 0) = (some k, 0)) (h3 : (tg == tagN k.sec (66 :: bd)) = true) : decF ks bd tg q = ((fgE q).1, 0) := by
  unfold decF
  rw [if_neg (fun h => h h1), h2]
  simp only
  rw [if_pos h3]
end Go.Proofs.YtnbghgenaolfgaaGreat

namespace Go.Proofs.YtnbghgenaolfgaaGreat
open Go.RowKit
set_option linter.unusedVariables false
set_option maxRecDepth 100000
set_option linter.unusedSimpArgs false

/-- A ring with a key more, at its place. -/
def addL (l : List Ky) (p : Nat) (k : Ky) : List Ky := l.take p ++ k :: l.drop p
theorem ringGo_iff : ∀ (l : List Ky) (last : Int), ringGo last l = true ↔ (∀ k ∈ l, rightB k = true ∧ last < k.id) ∧ l.Pairwise (fun a b => a.id < b.id)
  | [], last => by simp [ringGo]
  | x :: t, last => by
    rw [ringGo_cons, Bool.and_eq_true, Bool.and_eq_true, decide_eq_true_eq, ringGo_iff t x.id, List.pairwise_cons]
    constructor
    · rintro ⟨⟨h1, h2⟩, h3, h4⟩
      refine ⟨fun k hk => ?_, fun k hk => (h3 k hk).2, h4⟩
      rcases List.mem_cons.1 hk with rfl | hk
      · exact ⟨h1, h2⟩
      · exact ⟨(h3 k hk).1, by have := (h3 k hk).2; omega⟩
    · rintro ⟨h1, h2, h3⟩
      exact ⟨h1 x (by simp), fun k hk => ⟨(h1 k (by simp [hk])).1, h2 k hk⟩, h3⟩
theorem ring_add {l : List Ky} {k : Ky} {p : Nat} (hr : ringB l = true) (hk : rightB k = true) (hp : p ≤ l.length) (hlo : ∀ (j : Nat) (hj : j < l.length), j < p → l[j].id < k.id) (hhi : ∀ (j : Nat) (hj : j < l.length), p ≤ j → k.id ≤ l[j].id) (hno : (l.any fun x => x.id == k.id) = false) : ringB (addL l p k) = true := by
  unfold ringB at hr ⊢
  obtain ⟨h1, h2⟩ := (ringGo_iff l (-1)).1 hr
  have hid := rightB_id hk
  have hne : ∀ x ∈ l, x.id ≠ k.id := fun x hx => by
    have := List.any_eq_false.1 hno x hx
    simpa using this
  rw [ringGo_iff]
  have ht : ∀ x ∈ l.take p, x ∈ l := fun x hx => List.mem_of_mem_take hx
  have hd : ∀ x ∈ l.drop p, x ∈ l := fun x hx => List.mem_of_mem_drop hx
  have hlt : ∀ x ∈ l.take p, x.id < k.id := by
    intro x hx
    obtain ⟨j, hj, rfl⟩ := List.getElem_of_mem hx
    rw [List.length_take] at hj
    rw [List.getElem_take]
    exact hlo j (by omega) (by omega)
  have hgt : ∀ x ∈ l.drop p, k.id < x.id := by
    intro x hx
    obtain ⟨j, hj, rfl⟩ := List.getElem_of_mem hx
    have h3 := hne _ (hd _ (List.getElem_mem hj))
    rw [List.length_drop] at hj
    rw [List.getElem_drop] at h3 ⊢
    have := hhi (p + j) (by omega) (by omega)
    omega
  refine ⟨fun x hx => ?_, ?_⟩
  · rcases List.mem_append.1 hx with hx | hx
    · exact h1 x (ht x hx)
    rcases List.mem_cons.1 hx with rfl | hx
    · exact ⟨hk, by omega⟩
    · exact h1 x (hd x hx)
  · unfold addL
    rw [List.pairwise_append]
    refine ⟨h2.sublist (List.take_sublist _ _), ?_, fun a ha b hb => ?_⟩
    · rw [List.pairwise_cons]
      exact ⟨hgt, h2.sublist (List.drop_sublist _ _)⟩
    · have ha' := hlt a ha
      rcases List.mem_cons.1 hb with rfl | hb
      · exact ha'
      · have := hgt b hb; omega
theorem find_add {l : List Ky} {k : Ky} {p : Nat} (id : Int) (hno : (l.any fun x => x.id == k.id) = false) : (addL l p k).find? (fun x => x.id == id) = if id = k.id then some k else l.find? (fun x => x.id == id) := by
  have hne : ∀ x ∈ l, x.id ≠ k.id := fun x hx => by
    have := List.any_eq_false.1 hno x hx
    simpa using this
  unfold addL
  rw [List.find?_append, List.find?_cons]
  have e : l.find? (fun x => x.id == id) = ((l.take p).find? (fun x => x.id == id)).or ((l.drop p).find? (fun x => x.id == id)) := by
    rw [← List.find?_append, List.take_append_drop]
  by_cases h : id = k.id
  · rw [if_pos h]
    have : (l.take p).find? (fun x => x.id == id) = none := List.find?_eq_none.2 (fun x hx => by have := hne x (List.mem_of_mem_take hx); simp; omega)
    rw [this, h]
    simp
  · rw [if_neg h, e]
    have : (k.id == id) = false := by simp; omega
    rw [this]
/-- What a barcode says by a ring with a key more. -/
theorem keys_law {l : List Ky} {k : Ky} {p : Nat} (s : List Int) (hr : ringB l = true) (hr2 : ringB (addL l p k) = true) (hno : (l.any fun x => x.id == k.id) = false) :
    ((decE l s).2 = 10 → ((decE (addL l p k) s).2 = 10 ∨ (decE (addL l p k) s).2 = 11 ∨ ((decE (addL l p k) s).2 = 0 ∧ (decE (addL l p k) s).1.getD 11 0 = k.id))) ∧ ((decE l s).2 ≠ 10 → decE (addL l p k) s = decE l s) := by
  have e1 : ∀ ks : List Ky, ringB ks = true → decE ks s = (if (openE s).2 ≠ 0 then (zL, (openE s).2) else decF ks (openE s).1.1 (openE s).1.2.1 (openE s).1.2.2) := fun ks h => by unfold decE; rw [h, if_neg (by simp)]
  rw [e1 _ hr, e1 _ hr2]
  by_cases h1 : (openE s).2 ≠ 0
  · rw [if_pos h1, if_pos h1]
    exact ⟨fun h => .inl h, fun _ => rfl⟩
  rw [if_neg h1, if_neg h1]
  generalize (openE s).1.1 = bd
  generalize (openE s).1.2.1 = tg
  generalize (openE s).1.2.2 = q
  by_cases h2 : (fgE q).2 ≠ 0
  · have e2 : ∀ ks : List Ky, decF ks bd tg q = (zL, (fgE q).2) := fun ks => by unfold decF; rw [if_pos h2]
    rw [e2, e2]
    exact ⟨fun h => .inl h, fun _ => rfl⟩
  have e2 : ∀ ks : List Ky, decF ks bd tg q = (match findE ks ((fgE q).1.getD 11 0) with
      | (none, e) => (zL, e)
      | (some k, _) => if (tg == tagN k.sec (66 :: bd)) = true then ((fgE q).1, 0) else (zL, 11)) := fun ks => by
    unfold decF
    rw [if_neg h2]
    rfl
  rw [e2, e2]
  generalize hid : (fgE q).1.getD 11 0 = id
  have e3 : ∀ ks : List Ky, ringB ks = true → findE ks id = ((if 0 ≤ id ∧ id < 100 then match ks.find? (fun k => k.id == id) with
      | some k => (some k, 0)
      | none => (none, 10)
    else (none, 10)) : Option Ky × Int) := fun ks h => by
    unfold findE
    rw [if_neg (by rw [h]; simp)]
    rfl
  by_cases h4 : id = k.id
  · have hn : l.find? (fun x => x.id == id) = none := any_find (by rw [h4]; exact hno)
    have f1 : findE l id = (none, 10) := by rw [e3 _ hr, hn]; split <;> rfl
    rw [f1]
    simp only
    refine ⟨fun _ => ?_, fun h => absurd rfl h⟩
    rw [e3 _ hr2, find_add id hno, if_pos h4]
    by_cases h3 : 0 ≤ id ∧ id < 100
    · rw [if_pos h3]
      simp only
      by_cases h5 : (tg == tagN k.sec (66 :: bd)) = true
      · rw [if_pos h5]
        right; right
        exact ⟨rfl, by show (fgE q).1.getD 11 0 = k.id; rw [hid, h4]⟩
      · rw [if_neg h5]
        right; left; rfl
    · rw [if_neg h3]
      left; rfl
  · have f1 : findE (addL l p k) id = findE l id := by rw [e3 _ hr, e3 _ hr2, find_add id hno, if_neg h4]
    rw [f1]
    exact ⟨fun h => .inl h, fun _ => rfl⟩
end Go.Proofs.YtnbghgenaolfgaaGreat

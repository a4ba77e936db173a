/- An argument that is a slice of bytes: it reads as a list that memory has room for. Layer 5: a ring with a key more, what ring.Add computes. Layer 5: ring.Add, for all keys and each ring. Layer 5: ring.Add, whatever it is given. Layer 15's law StripeBack, walked: what was encoded is decoded again, also if it is turned round. Layer 15's law StripeKeys, walked: a key more in the ring changes nothing that a stripe says. The law StripeKeys, as a row: whatever the ring, the bytes and the key, the call returns true, and its arguments read as before. No condition. -/
import Derived.Test.YtnbghgenaolfgaaS00
import Derived.SizedLaws
import Derived.Test.YtnbghgenaolfgaaS43
import Derived.Test.YtnbghgenaolfgaaS18
import Derived.ArgAppend
import Derived.Test.YtnbghgenaolfgaaS01
import Derived.Test.YtnbghgenaolfgaaS45
import Derived.Test.YtnbghgenaolfgaaS46
import Derived.Test.YtnbghgenaolfgaaRows
namespace Go.Proofs.Ytnbghgenaolfgaa
open Go.RowKit
set_option linter.unusedVariables false
set_option maxRecDepth 100000

theorem ints_sized {H : Type} {enc : TypeId × Value → H} {P : Program} {w : World} {held : Bool} {t e : TypeId} {k : IntKind} {fuel : Nat} {a : Option Addr} {len cap : Nat} {d : DataW H} {p : List MemPlace} (ht : P.underlying t = some (.slice e)) (he : P.underlying e = some (.int k)) (hc : P.cellsOf e = 1) (hb : P.bytesOf e = 1)
    (hf : DataW.trod enc P w 0 (fun _ => true) held fuel t [.slice a len cap] = some (d, p)) {ts : List TypeId} {ds : List (DataW H)} (hsz : (DataW.weightsEach P ts ds).all (· ≤ reachBytes) = true) {j : Nat} (hj : ts[j]? = some t) (hd : ds[j]? = some d) :
    len ≤ 140737488351232 := by
  rcases Go.ChangeShapes.open_ints ht he hc hf with ⟨hcs, _⟩ | ⟨x, l, c, zs, hcs, _, hl, hm, hz, hx, hcell, hwz⟩
  · have e : (Value.slice a len cap) = .slice none 0 0 := by simpa using hcs
    injection e with _ e _
    omega
  · have e : (Value.slice a len cap) = .slice (some x) l c := by simpa using hcs
    injection e with _ e1 e2
    obtain rfl : d = .slice (Go.ChangeShapes.lits k (zs.take l)) (Go.ChangeShapes.lits k (zs.drop l)) := congrArg Prod.fst hx
    have h := sized_slice hsz hj hd ht
    rw [hb] at h
    have hz' : zs.length = c := by simpa using hz
    simp only [Go.ChangeShapes.lits, List.length_map, List.length_take, List.length_drop] at h
    have hr : reachBytes = 140737488351232 := rfl
    omega
end Go.Proofs.Ytnbghgenaolfgaa

namespace Go.Proofs.Ytnbghgenaolfgaa
open Go.RowKit
set_option linter.unusedVariables false
set_option maxRecDepth 100000
set_option linter.unusedSimpArgs false

theorem infoKy : (Try.prog.info? 28).map (fun i => (i.zero, i.size, i.bytes)) = some (some (.agg #[.int .i64 0, .slice none 0 0, .int .i64 0, .int .i64 0]), 4, 48) := by kernel_rfl
/-- append onto a slice that is full, at one operation: a new row. -/
theorem wpO_grow {P : Program} {w : World} {o : Oper} {a : Act} {Q : Exit → Act → World → Prop} {K : Act → World → Prop} (s x : Operand) (t : TypeId)
    (ho : o.op = .call { callee := .builtin .append, args := #[s, x], argTypes := #[t, t] })
    (e : TypeId) (i : TypeInfo) (z : Value) (size bytes : Nat) (ht : P.underlying t = some (.slice e)) (hi : P.info? e = some i) (hz : i.zero = some z)
    (hsize : i.size = size) (hby : i.bytes = bytes) (hzs : z.cells.size = size) (hsz : 0 < size)
    (b : Addr) (n cap : Nat) (olds : List Value) (hs : a.eval s = .slice (some b) n cap) (hlo : olds.length = n * size) (holds : ∀ j u, olds[j]? = some u → w.cell? (b.add j) = some u)
    (ad : Addr) (m c : Nat) (news : List Value) (hx : a.eval x = .slice (some ad) m c) (hl : news.length = m * size) (hnews : ∀ j u, news[j]? = some u → w.cell? (ad.add j) = some u)
    (hg : cap < n + m) (h63 : n + m ≤ maxLen) (hbytes : (n + m) * bytes ≤ 140737488355328)
    (h : ∀ v' w', w'.ownsRow w.heap.size e size v' (n + m) (olds ++ news) → w.grownBy w' none → K (a.put o.dst v') w') :
    o.wp P a w K Q := by
  obtain ⟨v', w', hr, h2, h3⟩ := run_append_arg_grows (P := P) w t o.type e i z size bytes ht hi hz hsize hby hzs hsz b n cap olds hlo holds ad m c news hl hnews hg h63 hbytes
  unfold Oper.wp execOp
  simp only [ho, resolve, invoke, builtin, Sem.run_bind, Sem.run_pure, Result.andThen_ok, List.map_toArray, List.map_cons, List.map_nil, hs, hx, hr]
  exact h v' w' h2 h3
/-- Keys, each with the slice of its secret, as cells. -/
structure Kv where
  k : Ky
  B : Option Addr
  c : Nat
def kvCells (l : List Kv) : List Value := l.flatMap fun x => [.int .i64 x.k.id, .slice x.B x.k.sec.length x.c, .int .i64 x.k.fr, .int .i64 x.k.til]
def KvOk (w : World) (x : Kv) : Prop := x.k.sec.length ≤ x.c ∧ x.c ≤ 9223372036854775807 ∧ RdI w .u8 x.B x.k.sec ∧ ∀ b ∈ x.k.sec, 0 ≤ b ∧ b < 256
theorem kvCells_len (l : List Kv) : (kvCells l).length = l.length * 4 := by
  induction l with
  | nil => rfl
  | cons x t ih => simp only [kvCells, List.flatMap_cons, List.length_append, List.length_cons, List.length_nil] at ih ⊢; omega
theorem kvCells_append (l m : List Kv) : kvCells (l ++ m) = kvCells l ++ kvCells m := by simp [kvCells]
theorem kvCells_at : ∀ (l : List Kv) (j : Nat) (h : j < l.length), (kvCells l)[4 * j]? = some (.int .i64 l[j].k.id) ∧ (kvCells l)[4 * j + 1]? = some (.slice l[j].B l[j].k.sec.length l[j].c) ∧ (kvCells l)[4 * j + 2]? = some (.int .i64 l[j].k.fr) ∧ (kvCells l)[4 * j + 3]? = some (.int .i64 l[j].k.til)
  | x :: l, 0, h => ⟨rfl, rfl, rfl, rfl⟩
  | x :: l, j + 1, h => by
    have ih := kvCells_at l j (by simpa using h)
    have e : kvCells (x :: l) = .int .i64 x.k.id :: .slice x.B x.k.sec.length x.c :: .int .i64 x.k.fr :: .int .i64 x.k.til :: kvCells l := rfl
    rw [e, show 4 * (j + 1) = 4 * j + 1 + 1 + 1 + 1 by omega, show 4 * j + 1 + 1 + 1 + 1 + 1 = (4 * j + 1) + 1 + 1 + 1 + 1 by omega, show 4 * j + 1 + 1 + 1 + 1 + 2 = (4 * j + 2) + 1 + 1 + 1 + 1 by omega, show 4 * j + 1 + 1 + 1 + 1 + 3 = (4 * j + 3) + 1 + 1 + 1 + 1 by omega]
    simp only [List.getElem?_cons_succ]
    exact ih
/-- The keys at an address, as cells. -/
theorem rdk_cells {w : World} {ad : Addr} : ∀ (l : List Ky), (∀ j, (h : j < l.length) → KeyAt w (ad.add (j * 4)) l[j]) → ∃ L : List Kv, L.map (·.k) = l ∧ (∀ x ∈ L, KvOk w x) ∧ ∀ j u, (kvCells L)[j]? = some u → w.cell? (ad.add j) = some u := by
  intro l h
  have hex : ∀ n, n ≤ l.length → ∃ L : List Kv, L.map (·.k) = l.take n ∧ (∀ x ∈ L, KvOk w x) ∧ ∀ j u, (kvCells L)[j]? = some u → w.cell? (ad.add j) = some u := by
    intro n
    induction n with
    | zero => exact fun _ => ⟨[], by simp, by simp, by simp [kvCells]⟩
    | succ n ih =>
      intro hn
      obtain ⟨L, h1, h2, h3⟩ := ih (by omega)
      obtain ⟨B, c, g0, g1, g2, g3, g4, g5, g6, g7⟩ := h n (by omega)
      have hL : L.length = n := by have := congrArg List.length h1; simp at this; omega
      refine ⟨L ++ [⟨l[n], B, c⟩], ?_, fun x hx => ?_, fun j u hj => ?_⟩
      · rw [List.map_append, h1]
        simp only [List.map_cons, List.map_nil]
        rw [List.take_add_one, List.getElem?_eq_getElem (by omega)]
        rfl
      · rcases List.mem_append.1 hx with hx | hx
        · exact h2 x hx
        · obtain rfl := List.mem_singleton.1 hx
          exact ⟨g4, g5, g6, g7⟩
      · rw [kvCells_append] at hj
        by_cases hlt : j < (kvCells L).length
        · rw [List.getElem?_append_left hlt] at hj; exact h3 j u hj
        · rw [List.getElem?_append_right (by omega), kvCells_len, hL] at hj
          rw [kvCells_len, hL] at hlt
          have a1 : ∀ i, (⟨(ad.add (n * 4)).block, (ad.add (n * 4)).off + (i + 1), none⟩ : Addr) = ad.add (n * 4 + (i + 1)) := by
            intro i
            rw [← add_add, add_succ]
          obtain ⟨d, rfl⟩ : ∃ d, j = n * 4 + d := ⟨j - n * 4, by omega⟩
          rw [show n * 4 + d - n * 4 = d by omega] at hj
          have hd : d < 4 := by
            have := (List.getElem?_eq_some_iff.1 hj).1
            rw [kvCells_len] at this
            simpa using this
          have : d = 0 ∨ d = 1 ∨ d = 2 ∨ d = 3 := by omega
          rcases this with rfl | rfl | rfl | rfl
          · obtain rfl : _ = u := Option.some.inj hj
            exact g0
          · obtain rfl : _ = u := Option.some.inj hj
            rw [← a1 0]; exact g1
          · obtain rfl : _ = u := Option.some.inj hj
            rw [← a1 1]; exact g2
          · obtain rfl : _ = u := Option.some.inj hj
            rw [← a1 2]; exact g3
  have := hex l.length (Nat.le_refl _)
  rwa [List.take_length] at this
theorem rdk_own {w w0 : World} {base : Nat} {v : Value} {L : List Kv} (ho : w.ownsRow base 28 4 v L.length (kvCells L)) (hk : ∀ x ∈ L, KvOk w0 x) (hb : Below w0.heap.size w0 w) : ∃ A c, v = .slice A L.length c ∧ RdK w A (L.map (·.k)) := by
  rcases ho.2 with ⟨rfl, h0⟩ | ⟨g, cap, cur, rfl, _, hh, h1, h2, _⟩
  · obtain rfl := List.eq_nil_of_length_eq_zero h0
    exact ⟨none, 0, rfl, .inl rfl⟩
  · refine ⟨some ⟨g, 0, none⟩, cap, rfl, .inr ⟨_, rfl, (ho.lt g rfl).2, fun j hj => ?_⟩⟩
    rw [List.length_map] at hj
    obtain ⟨e0, e1, e2, e3⟩ := kvCells_at L j hj
    have c0 := ho.cells rfl _ _ e0
    have c1 := ho.cells rfl _ _ e1
    have c2 := ho.cells rfl _ _ e2
    have c3 := ho.cells rfl _ _ e3
    obtain ⟨k1, k2, k3, k4⟩ := hk _ (List.getElem_mem hj)
    have ea : ∀ i, (⟨g, 0, none⟩ : Addr).add i = ⟨g, i, none⟩ := by intro i; unfold Addr.add; by_cases hi : i = 0 <;> simp [hi]
    rw [ea] at c0 c1 c2 c3
    rw [List.getElem_map, ea, Nat.mul_comm j 4]
    exact ⟨L[j].B, L[j].c, c0, c1, c2, c3, k1, k2, k3.below hb, k4⟩
end Go.Proofs.Ytnbghgenaolfgaa

namespace Go.Proofs.Ytnbghgenaolfgaa
open Go.RowKit
set_option linter.unusedVariables false
set_option maxRecDepth 100000
set_option linter.unusedSimpArgs false

theorem add_err {w w' : World} (er : Int) (he : er ≠ 0) {u : Value} (hu : u = .tuple #[.slice none 0 0, .int .i64 er]) (hb : Below w.heap.size w w') : (∃ er : Int, er ≠ 0 ∧ Ending.returned u = .returned (.tuple #[.slice none 0 0, .int .i64 er])) ∧ Below w.heap.size w w' := ⟨⟨er, he, by rw [hu]⟩, hb⟩
set_option maxHeartbeats 4000000 in
theorem ringAdd_no (A : Option Addr) (c : Nat) (l : List Ky) (ki fr til : Int) (sec : List Int) (B : Option Addr) (n ck : Nat) (hn : sec.length = n) (w : World) (hr : RdK w A l) (hl : l.length ≤ 9223372036854775807) (hno : (ringB l && rightB ⟨ki, sec, fr, til⟩ && !(l.any fun x => x.id == ki)) = false) :
    Calls Try.prog 33 #[.slice A l.length c, .agg #[.int .i64 ki, .slice B n ck, .int .i64 fr, .int .i64 til]] w fun e w' => (∃ er : Int, er ≠ 0 ∧ e = .returned (.tuple #[.slice none 0 0, .int .i64 er])) ∧ Below w.heap.size w w' := by
  have hI := fun W hW => ringIs_any A c l W hW hl
  have hR := fun W => right_any B n ck ⟨ki, sec, fr, til⟩ hn W
  have hr0 := hr.below (bel1 w (.cells #[.int .i64 ki, .slice B n ck, .int .i64 fr, .int .i64 til] 28)) (Nat.le_refl _)
  have hF0 := heap_alloc_new w (.cells #[.int .i64 ki, .slice B n ck, .int .i64 fr, .int .i64 til] 28)
  have hs0 : w.heap.size < (w.alloc (.cells #[.int .i64 ki, .slice B n ck, .int .i64 fr, .int .i64 til] 28)).heap.size := by simp
  have hb0 := bel1 w (.cells #[.int .i64 ki, .slice B n ck, .int .i64 fr, .int .i64 til] 28)
  cases hz : ringB l with
  | false =>
    rw [hz] at hI
    clear hno
    go_enter Try.func33, Try.ntmps33
    go_wp2_with (go_at_call 39; (with_reducible refine (hI _ hr0).mono ?_); rintro e w' ⟨rfl, hb⟩; have hbx := hb0.trans (hb.mono (Nat.le_of_lt hs0)))
    go_ret2
    exact add_err 1 (by omega) rfl hbx
  | true =>
    have HI := Lib.hid hz
    have hlen := ring_len hz
    have hlt := ringGo_lt l (-1) hz
    have hm := ringGo_mem l (-1) hz
    have hid : ∀ k ∈ l, 0 ≤ k.id ∧ k.id ≤ 99 := fun k hk => rightB_id (hm k hk).1
    rw [hz] at hI
    cases hz2 : rightB ⟨ki, sec, fr, til⟩ with
    | false =>
      rw [hz2] at hR
      clear hno hlt hm hid
      go_enter Try.func33, Try.ntmps33
      go_wp2_with (first | (go_at_call 39; (with_reducible refine (hI _ hr0).mono ?_); rintro e w' ⟨rfl, hb⟩; have hF := (hb.block w.heap.size hs0).trans hF0; have hbx := hb0.trans (hb.mono (Nat.le_of_lt hs0)); have c0 := cell_of_row _ _ 0 _ _ _ hF; have c1 := cell_of_row _ _ 1 _ _ _ hF; have c2 := cell_of_row _ _ 2 _ _ _ hF; have c3 := cell_of_row _ _ 3 _ _ _ hF) | (go_at_call 83; (with_reducible refine (hR _).mono ?_); rintro e w2 ⟨rfl, hb2⟩; have hby := hbx.trans (hb2.mono hbx.size)))
      go_ret2
      exact add_err 1 (by omega) rfl hby
    | true =>
      rw [hz2] at hR
      have hki2 : 0 ≤ ki ∧ ki ≤ 99 := rightB_id hz2
      have ha : (l.any fun x => x.id == ki) = true := by rw [hz, hz2] at hno; simpa using hno
      have hPl := fun W hW => place_any A c l ki W hW hlen hlt hid hki2
      rw [ha] at hPl
      clear hno hlt hm hid ha
      go_enter Try.func33, Try.ntmps33
      go_wp2_with (first | (go_at_call 39; (with_reducible refine (hI _ hr0).mono ?_); rintro e w' ⟨rfl, hb⟩; have hF := (hb.block w.heap.size hs0).trans hF0; have hbx := hb0.trans (hb.mono (Nat.le_of_lt hs0)); have c0 := cell_of_row _ _ 0 _ _ _ hF; have c1 := cell_of_row _ _ 1 _ _ _ hF; have c2 := cell_of_row _ _ 2 _ _ _ hF; have c3 := cell_of_row _ _ 3 _ _ _ hF; have hr1 := hr0.below hb (Nat.le_refl _)) | (go_at_call 83; (with_reducible refine (hR _).mono ?_); rintro e w2 ⟨rfl, hb2⟩; have hby := hbx.trans (hb2.mono hbx.size); have hr2 := hr1.below hb2 (Nat.le_refl _); have d0 := keep_cell hb2 c0) | (go_at_call 84; (with_reducible refine (hPl _ hr2).mono ?_); rintro e w3 ⟨⟨p, hp, rfl, _, _⟩, hb3⟩; have hbz := hby.trans (hb3.mono hby.size)))
      go_ret2
      exact add_err 10 (by omega) rfl hbz

/-- append(v, nil...) at one operation. -/
theorem wpO_nil {P : Program} {w : World} {o : Oper} {a : Act} {Q : Exit → Act → World → Prop} {K : Act → World → Prop} (s x : Operand) (t : TypeId)
    (ho : o.op = .call { callee := .builtin .append, args := #[s, x], argTypes := #[t, t] })
    (base : Nat) (e : TypeId) (i : TypeInfo) (size : Nat) (ht : P.underlying t = some (.slice e)) (hi : P.info? e = some i) (hsize : i.size = size)
    (v : Value) (n : Nat) (xs : List Value) (hs : a.eval s = v) (hown : w.ownsRow base e size v n xs) (c : Nat) (hx : a.eval x = .slice none 0 c) (h : K (a.put o.dst v) w) : o.wp P a w K Q := by
  have hr := run_append_nilsrc (P := P) w base t o.type e i size ht hi v n xs hown c
  unfold Oper.wp execOp
  simp only [ho, resolve, invoke, builtin, Sem.run_bind, Sem.run_pure, Result.andThen_ok, List.map_toArray, List.map_cons, List.map_nil, hs, hx, hr]
  exact h
/-- What ring.Add returns where it comes through: the ring with the key at its place. -/
def AddRet (l : List Ky) (k : Ky) (w : World) (e : Ending) (w' : World) : Prop :=
  (∃ (p : Nat) (A2 : Option Addr) (c2 : Nat), p ≤ l.length ∧ (∀ (j : Nat) (hj : j < l.length), j < p → l[j].id < k.id) ∧ (∀ (j : Nat) (hj : j < l.length), p ≤ j → k.id ≤ l[j].id) ∧ e = .returned (.tuple #[.slice A2 (l.length + 1) c2, .int .i64 0]) ∧ RdK w' A2 (addL l p k)) ∧ Below w.heap.size w w'
theorem sk_of {g : Nat} {w9 : World} {ki fr til : Int} {B : Option Addr} {n ck : Nat} {t : TypeId} (h : w9.heap[g]? = some (.cells #[.int .i64 ki, .slice B n ck, .int .i64 fr, .int .i64 til] t (0, 0))) : w9.heap[g]? = some (.cells #[.int .i64 ki, .slice B n ck, .int .i64 fr, .int .i64 til] t (0, 0)) ∧ w9.cell? ⟨g, 0, none⟩ = some (.int .i64 ki) ∧ w9.cell? ⟨g, 1, none⟩ = some (.slice B n ck) ∧ w9.cell? ⟨g, 2, none⟩ = some (.int .i64 fr) ∧ w9.cell? ⟨g, 3, none⟩ = some (.int .i64 til) :=
  ⟨h, cell_of_row _ _ 0 _ _ _ h, cell_of_row _ _ 1 _ _ _ h, cell_of_row _ _ 2 _ _ _ h, cell_of_row _ _ 3 _ _ _ h⟩
theorem sk_alloc {g : Nat} {w9 : World} {ki fr til : Int} {B : Option Addr} {n ck : Nat} {t : TypeId} (h : w9.heap[g]? = some (.cells #[.int .i64 ki, .slice B n ck, .int .i64 fr, .int .i64 til] t (0, 0)) ∧ w9.cell? ⟨g, 0, none⟩ = some (.int .i64 ki) ∧ w9.cell? ⟨g, 1, none⟩ = some (.slice B n ck) ∧ w9.cell? ⟨g, 2, none⟩ = some (.int .i64 fr) ∧ w9.cell? ⟨g, 3, none⟩ = some (.int .i64 til)) (o : Obj) :
    (w9.alloc o).heap[g]? = some (.cells #[.int .i64 ki, .slice B n ck, .int .i64 fr, .int .i64 til] t (0, 0)) ∧ (w9.alloc o).cell? ⟨g, 0, none⟩ = some (.int .i64 ki) ∧ (w9.alloc o).cell? ⟨g, 1, none⟩ = some (.slice B n ck) ∧ (w9.alloc o).cell? ⟨g, 2, none⟩ = some (.int .i64 fr) ∧ (w9.alloc o).cell? ⟨g, 3, none⟩ = some (.int .i64 til) :=
  sk_of ((Below.heap_alloc _ _ _ (Array.getElem?_eq_some_iff.1 h.1).1).trans h.1)
theorem kv_take {L : List Kv} {w : World} {ad : Addr} (h : ∀ j u, (kvCells L)[j]? = some u → w.cell? (ad.add j) = some u) (p : Nat) : ∀ j u, (kvCells (L.take p))[j]? = some u → w.cell? (ad.add j) = some u := by
  intro j u hj
  refine h j u ?_
  have hlt := (List.getElem?_eq_some_iff.1 hj).1
  rw [← List.take_append_drop p L, kvCells_append, List.getElem?_append_left hlt]
  exact hj
theorem kv_drop {L : List Kv} {w : World} {ad : Addr} (h : ∀ j u, (kvCells L)[j]? = some u → w.cell? (ad.add j) = some u) (p : Nat) (hp : p ≤ L.length) : ∀ j u, (kvCells (L.drop p))[j]? = some u → w.cell? ((ad.add (p * 4)).add j) = some u := by
  intro j u hj
  rw [add_add]
  refine h _ u ?_
  have e : (kvCells (L.take p)).length = p * 4 := by rw [kvCells_len, List.length_take, Nat.min_eq_left hp]
  rw [← List.take_append_drop p L, kvCells_append, List.getElem?_append_right (by omega), e, show p * 4 + j - p * 4 = j by omega]
  exact hj
theorem kv_keep {l : List Value} {w w9 : World} {ad : Addr} (h : ∀ j u, l[j]? = some u → w.cell? (ad.add j) = some u) (hb : Below w.heap.size w w9) : ∀ j u, l[j]? = some u → w9.cell? (ad.add j) = some u := fun j u hj => keep_cell hb (h j u hj)
theorem kv_one : ∀ (l : List Kv), ∀ u ∈ kvCells l, u.oneCell' = true := by
  intro l u hu
  unfold kvCells at hu
  rw [List.mem_flatMap] at hu
  obtain ⟨x, _, hx⟩ := hu
  simp only [List.mem_cons, List.not_mem_nil, or_false] at hx
  rcases hx with rfl | rfl | rfl | rfl <;> rfl
set_option maxHeartbeats 4000000 in
theorem ringAdd_some (ad : Addr) (c : Nat) (l : List Ky) (ki fr til : Int) (sec : List Int) (B : Option Addr) (n ck : Nat) (hn : sec.length = n) (w : World) (hr : RdK w (some ad) l) (hlc : l.length ≤ c) (hc9 : c ≤ 9223372036854775807) (hcn : n ≤ ck) (hck : ck ≤ 9223372036854775807) (hs : RdI w .u8 B sec) (hsb : ∀ x ∈ sec, 0 ≤ x ∧ x < 256)
    (hz : ringB l = true) (hz2 : rightB ⟨ki, sec, fr, til⟩ = true) (ha : (l.any fun x => x.id == ki) = false) :
    Calls Try.prog 33 #[.slice (some ad) l.length c, .agg #[.int .i64 ki, .slice B n ck, .int .i64 fr, .int .i64 til]] w (AddRet l ⟨ki, sec, fr, til⟩ w) := by
  obtain ⟨i0, hi, hiz, his, hib⟩ := info_parts infoKy
  have hl : l.length ≤ 9223372036854775807 := by omega
  have hI := fun W hW => ringIs_any (some ad) c l W hW hl
  have hR := fun W => right_any B n ck ⟨ki, sec, fr, til⟩ hn W
  have hr0 := hr.below (bel1 w (.cells #[.int .i64 ki, .slice B n ck, .int .i64 fr, .int .i64 til] 28)) (Nat.le_refl _)
  have hF0 := heap_alloc_new w (.cells #[.int .i64 ki, .slice B n ck, .int .i64 fr, .int .i64 til] 28)
  have hs0 : w.heap.size < (w.alloc (.cells #[.int .i64 ki, .slice B n ck, .int .i64 fr, .int .i64 til] 28)).heap.size := by simp
  have hb0 := bel1 w (.cells #[.int .i64 ki, .slice B n ck, .int .i64 fr, .int .i64 til] 28)
  have hlen := ring_len hz
  have hlt := ringGo_lt l (-1) hz
  have hm := ringGo_mem l (-1) hz
  have hid : ∀ k ∈ l, 0 ≤ k.id ∧ k.id ≤ 99 := fun k hk => rightB_id (hm k hk).1
  have hki2 : 0 ≤ ki ∧ ki ≤ 99 := rightB_id hz2
  have hPl := fun W hW => place_any (some ad) c l ki W hW hlen hlt hid hki2
  have HLC := Lib.hid hlc
  have HN := Lib.hid hn
  have HK := Lib.hid (And.intro hcn hck)
  have HSB := Lib.hid hsb
  have HS := Lib.hid hs
  have HLE := Lib.hid hlen
  rw [ha] at hPl
  rw [hz2] at hR
  rw [hz] at hI
  clear hlt hm hid ha hz hz2 hsb hn hcn hck hs
  go_enter Try.func33, Try.ntmps33
  go_wp2_with (first | (go_at_call 39; (with_reducible refine (hI _ hr0).mono ?_); rintro e w' ⟨rfl, hb⟩; have hF := (hb.block w.heap.size hs0).trans hF0; have hbx := hb0.trans (hb.mono (Nat.le_of_lt hs0)); have c0 := cell_of_row _ _ 0 _ _ _ hF; have c1 := cell_of_row _ _ 1 _ _ _ hF; have c2 := cell_of_row _ _ 2 _ _ _ hF; have c3 := cell_of_row _ _ 3 _ _ _ hF; have hr1 := hr0.below hb (Nat.le_refl _)) | (go_at_call 83; (with_reducible refine (hR _).mono ?_); rintro e w2 ⟨rfl, hb2⟩; have hby := hbx.trans (hb2.mono hbx.size); have hr2 := hr1.below hb2 (Nat.le_refl _); have d0 := keep_cell hb2 c0) | (go_at_call 84; (with_reducible refine (hPl _ hr2).mono ?_); rintro e w3 ⟨⟨p, hp, rfl, hlo, hhi⟩, hb3⟩))
  have hbz := hby.trans (hb3.mono hby.size)
  have hr3 := hr2.below hb3 (Nat.le_refl _)
  have HLO := Lib.hid hlo
  have HHI := Lib.hid hhi
  have k0 : (0 : Int) ≤ (p : Int) := by omega
  have k1 : (p : Int) ≤ (l.length : Int) := by omega
  have k2 : (p : Int) ≤ (c : Int) := by omega
  have k3 : (l.length : Int) ≤ (c : Int) := by omega
  have hF3 : w3.heap[w.heap.size]? = some (.cells #[.int .i64 ki, .slice B n ck, .int .i64 fr, .int .i64 til] 28 (0, 0)) := (hb3.block _ (Array.getElem?_eq_some_iff.1 ((hb2.block _ (Array.getElem?_eq_some_iff.1 hF).1).trans hF)).1).trans ((hb2.block _ (Array.getElem?_eq_some_iff.1 hF).1).trans hF)
  clear c0 c1 c2 c3 d0 hlo hhi hI hR hPl hr0 hF0 hs0 hb0 hr1 hr2 hb2 hb3 hF hbx hby hb hr hlc hl hki2
  clear w' w2
  obtain ⟨L, hL1, hL2, hL3⟩ : ∃ L : List Kv, L.map (·.k) = l ∧ (∀ x ∈ L, KvOk w3 x) ∧ ∀ j u, (kvCells L)[j]? = some u → w3.cell? (ad.add j) = some u := by
    rcases hr3 with h0 | ⟨ad', e, _, hka⟩
    · exact ⟨[], by simp [h0], by simp, by simp [kvCells]⟩
    · obtain rfl := Option.some.inj e
      exact rdk_cells l hka
  have hLl : L.length = l.length := by have := congrArg List.length hL1; simpa using this
  have HL1 := Lib.hid hL1
  have HL2 := Lib.hid hL2
  have HL3 := Lib.hid hL3
  have HLl := Lib.hid hLl
  clear hL1 hL2 hL3 hLl hr3
  have hk0 := sk_of (w9 := w3.drew) hF3
  obtain ⟨ax, hax1, hax2⟩ : ∃ ax : Addr, (if c = p then some ad else some (ad.add (p * 4))) = some ax ∧ ∀ j u, (kvCells (L.drop p))[j]? = some u → w3.cell? (ax.add j) = some u := by
    by_cases h : c = p
    · refine ⟨ad, by rw [if_pos h], fun j u hj => ?_⟩
      have hlc := HLC.out
      rw [List.drop_eq_nil_of_le (by rw [HLl.out]; omega)] at hj
      cases hj
    · exact ⟨_, by rw [if_neg h], kv_drop HL3.out p (by rw [HLl.out]; exact hp)⟩
  have HA1 := Lib.hid hax1
  have HA2 := Lib.hid hax2
  clear hax1 hax2
  have tok1 : True := trivial
  have tok2 : True := trivial
  go_region_held3 (fun w9 => w9.heap[w.heap.size]? = some (.cells #[.int .i64 ki, .slice B n ck, .int .i64 fr, .int .i64 til] 28 (0, 0)) ∧ w9.cell? ⟨w.heap.size, 0, none⟩ = some (.int .i64 ki) ∧ w9.cell? ⟨w.heap.size, 1, none⟩ = some (.slice B n ck) ∧ w9.cell? ⟨w.heap.size, 2, none⟩ = some (.int .i64 fr) ∧ w9.cell? ⟨w.heap.size, 3, none⟩ = some (.int .i64 til)) (first | assumption | exact hk0 | exact sk_alloc (by assumption) _ | exact hk5 | exact hk6) (first | (rw [if_pos (by rfl)]; have _t := tok1; refine wpO_grow _ _ 31 rfl 28 i0 _ 4 48 Try.underlying31 hi hiz his hib rfl (by decide) ad p p (kvCells (L.take p)) rfl ?_ ?_ ⟨w3.heap.size, 0, none⟩ 1 1 [.int .i64 ki, .slice B n ck, .int .i64 fr, .int .i64 til] rfl ?_ ?_ ?_ ?_ ?_ ?_; (focus (rw [kvCells_len, List.length_take, HLl.out, Nat.min_eq_left hp])); (focus (exact kv_keep (kv_take HL3.out p) (bA (bD (Below.refl _ _)) _))); (focus rfl); (focus (exact fcells_new w3.drew _ _)); (focus (exact Nat.lt_succ_self _)); (focus (exact maxLen_ge (by have := HLE.out; omega))); (focus (have := HLE.out; omega)); intro v5 w5 ho5 hg5; clear tok1; have hk5 := sk_of ((hg5.block _ (Array.getElem?_eq_some_iff.1 (sk_alloc hk0 (.cells #[.int .i64 ki, .slice B n ck, .int .i64 fr, .int .i64 til] 28)).1).1 (by simp)).trans (sk_alloc hk0 (.cells #[.int .i64 ki, .slice B n ck, .int .i64 fr, .int .i64 til] 28)).1); have hb5 := bG (bA (bD (Below.refl _ w3)) (.cells #[.int .i64 ki, .slice B n ck, .int .i64 fr, .int .i64 til] 28)) hg5 (fun k hk => absurd hk (by simp))) | (rw [if_pos (by rfl)]; have _t := tok2; refine wpO_app_own _ _ 31 rfl _ 28 i0 _ 4 48 Try.underlying31 hi hiz his hib rfl (by decide) v5 (p + 1) _ rfl ho5 ax (l.length - p) (c - p) (kvCells (L.drop p)) ?_ ?_ (kv_keep HA2.out hb5) (kv_one _) ?_ ?_ ?_ ?_; (focus (exact congrArg (fun A => Value.slice A (l.length - p) (c - p)) HA1.out)); (focus (rw [kvCells_len, List.length_drop, HLl.out])); (focus (exact maxLen_ge (by have := HLE.out; omega))); (focus (have := HLE.out; omega)); (focus (exact hg5.size)); intro v6 w6 ho6 hg6 ha6; clear tok2; have hk6 := sk_of ((hg6.block _ (Array.getElem?_eq_some_iff.1 hk5.1).1 (fun h => absurd (own_ge ho5 _ h.symm) (Nat.not_le.2 (Nat.lt_of_lt_of_le (Array.getElem?_eq_some_iff.1 hF3).1 (bA (bD (Below.refl _ w3)) (.cells #[.int .i64 ki, .slice B n ck, .int .i64 fr, .int .i64 til] 28)).size)))).trans hk5.1); have HB6 := Lib.hid (bG hb5 hg6 (fun k hk => Nat.le_trans (bA (bD (Below.refl _ w3)) (.cells #[.int .i64 ki, .slice B n ck, .int .i64 fr, .int .i64 til] 28)).size (own_ge ho5 k hk))); have HO6 := Lib.hid ho6))
  have hlen6 : (L.take p ++ ⟨⟨ki, sec, fr, til⟩, B, ck⟩ :: L.drop p).length = p + 1 + (l.length - p) := by
    rw [List.length_append, List.length_take, List.length_cons, List.length_drop, HLl.out, Nat.min_eq_left hp]; omega
  have ho6' := HO6.out
  rw [← hlen6, show kvCells (L.take p) ++ [.int .i64 ki, .slice B n ck, .int .i64 fr, .int .i64 til] ++ kvCells (L.drop p) = kvCells (L.take p ++ ⟨⟨ki, sec, fr, til⟩, B, ck⟩ :: L.drop p) by rw [kvCells_append, ← HN.out, List.append_assoc]; rfl] at ho6'
  have hkk : ∀ x ∈ L.take p ++ (⟨⟨ki, sec, fr, til⟩, B, ck⟩ : Kv) :: L.drop p, KvOk w3 x := by
    intro x hx
    rcases List.mem_append.1 hx with hx | hx
    · exact HL2.out x (List.mem_of_mem_take hx)
    rcases List.mem_cons.1 hx with rfl | hx
    · exact ⟨by rw [HN.out]; exact HK.out.1, HK.out.2, HS.out.below hbz, HSB.out⟩
    · exact HL2.out x (List.mem_of_mem_drop hx)
  obtain ⟨A2, c2, rfl, hrd⟩ := rdk_own (w0 := w3) ho6' hkk HB6.out
  rw [hlen6, show p + 1 + (l.length - p) = l.length + 1 by omega]
  rw [HA1.out]
  go_wp2
  go_ret2
  refine ⟨⟨p, A2, c2, hp, HLO.out, HHI.out, rfl, ?_⟩, bT hbz HB6.out⟩
  rw [List.map_append, List.map_cons, List.map_take, List.map_drop, HL1.out] at hrd
  exact hrd
set_option maxHeartbeats 4000000 in
theorem ringAdd_none (c : Nat) (ki fr til : Int) (sec : List Int) (B : Option Addr) (n ck : Nat) (hn : sec.length = n) (w : World) (hc9 : c ≤ 9223372036854775807) (hcn : n ≤ ck) (hck : ck ≤ 9223372036854775807) (hs : RdI w .u8 B sec) (hsb : ∀ x ∈ sec, 0 ≤ x ∧ x < 256)
    (hz2 : rightB ⟨ki, sec, fr, til⟩ = true) :
    Calls Try.prog 33 #[.slice none 0 c, .agg #[.int .i64 ki, .slice B n ck, .int .i64 fr, .int .i64 til]] w (AddRet [] ⟨ki, sec, fr, til⟩ w) := by
  obtain ⟨i0, hi, hiz, his, hib⟩ := info_parts infoKy
  have hz : ringB [] = true := rfl
  have hr : RdK w none [] := .inl rfl
  have hI := fun W hW => ringIs_any none c [] W hW (by simp)
  have hR := fun W => right_any B n ck ⟨ki, sec, fr, til⟩ hn W
  have hr0 := hr.below (bel1 w (.cells #[.int .i64 ki, .slice B n ck, .int .i64 fr, .int .i64 til] 28)) (Nat.le_refl _)
  have hF0 := heap_alloc_new w (.cells #[.int .i64 ki, .slice B n ck, .int .i64 fr, .int .i64 til] 28)
  have hs0 : w.heap.size < (w.alloc (.cells #[.int .i64 ki, .slice B n ck, .int .i64 fr, .int .i64 til] 28)).heap.size := by simp
  have hb0 := bel1 w (.cells #[.int .i64 ki, .slice B n ck, .int .i64 fr, .int .i64 til] 28)
  have hlt := ringGo_lt [] (-1) hz
  have hm := ringGo_mem [] (-1) hz
  have hid : ∀ k ∈ ([] : List Ky), 0 ≤ k.id ∧ k.id ≤ 99 := fun k hk => rightB_id (hm k hk).1
  have hki2 : 0 ≤ ki ∧ ki ≤ 99 := rightB_id hz2
  have hPl := fun W hW => place_any none c [] ki W hW (by simp) hlt hid hki2
  have HN := Lib.hid hn
  have HK := Lib.hid (And.intro hcn hck)
  have HSB := Lib.hid hsb
  have HS := Lib.hid hs
  rw [show (([] : List Ky).any fun x => x.id == ki) = false from rfl] at hPl
  simp only [List.length_nil] at hI hPl
  rw [hz2] at hR
  rw [hz] at hI
  clear hlt hm hid hz hz2 hsb hn hcn hck hs
  go_enter Try.func33, Try.ntmps33
  go_wp2_with (first | (go_at_call 39; (with_reducible refine (hI _ hr0).mono ?_); rintro e w' ⟨rfl, hb⟩; have hF := (hb.block w.heap.size hs0).trans hF0; have hbx := hb0.trans (hb.mono (Nat.le_of_lt hs0)); have c0 := cell_of_row _ _ 0 _ _ _ hF; have c1 := cell_of_row _ _ 1 _ _ _ hF; have c2 := cell_of_row _ _ 2 _ _ _ hF; have c3 := cell_of_row _ _ 3 _ _ _ hF; have hr1 := hr0.below hb (Nat.le_refl _)) | (go_at_call 83; (with_reducible refine (hR _).mono ?_); rintro e w2 ⟨rfl, hb2⟩; have hby := hbx.trans (hb2.mono hbx.size); have hr2 := hr1.below hb2 (Nat.le_refl _); have d0 := keep_cell hb2 c0) | (go_at_call 84; (with_reducible refine (hPl _ hr2).mono ?_); rintro e w3 ⟨⟨p, hp, rfl, hlo, hhi⟩, hb3⟩))
  have hbz := hby.trans (hb3.mono hby.size)
  have hr3 := hr2.below hb3 (Nat.le_refl _)
  obtain rfl : p = 0 := by simpa using hp
  have hF3 : w3.heap[w.heap.size]? = some (.cells #[.int .i64 ki, .slice B n ck, .int .i64 fr, .int .i64 til] 28 (0, 0)) := (hb3.block _ (Array.getElem?_eq_some_iff.1 ((hb2.block _ (Array.getElem?_eq_some_iff.1 hF).1).trans hF)).1).trans ((hb2.block _ (Array.getElem?_eq_some_iff.1 hF).1).trans hF)
  clear c0 c1 c2 c3 d0 hlo hhi hp hI hR hPl hr0 hF0 hs0 hb0 hr1 hr2 hb2 hb3 hF hbx hby hb hr hki2
  clear w' w2
  have hk0 := sk_of (w9 := w3.drew) hF3
  rw [show ((0 : Nat) : Int) = 0 from rfl]
  have tok1 : True := trivial
  have tok2 : True := trivial
  go_region_held3 (fun w9 => w9.heap[w.heap.size]? = some (.cells #[.int .i64 ki, .slice B n ck, .int .i64 fr, .int .i64 til] 28 (0, 0)) ∧ w9.cell? ⟨w.heap.size, 0, none⟩ = some (.int .i64 ki) ∧ w9.cell? ⟨w.heap.size, 1, none⟩ = some (.slice B n ck) ∧ w9.cell? ⟨w.heap.size, 2, none⟩ = some (.int .i64 fr) ∧ w9.cell? ⟨w.heap.size, 3, none⟩ = some (.int .i64 til)) (first | assumption | exact hk0 | exact sk_alloc (by assumption) _ | exact hk5 | exact hk6) (first | (rw [if_pos (by rfl)]; have _t := tok1; refine wpO_app_own _ _ 31 rfl w3.heap.size 28 i0 _ 4 48 Try.underlying31 hi hiz his hib rfl (by decide) (.slice none 0 0) 0 [] rfl (World.ownsRow_nil _ _ _ _) ⟨w3.heap.size, 0, none⟩ 1 1 [.int .i64 ki, .slice B n ck, .int .i64 fr, .int .i64 til] rfl ?_ ?_ ?_ ?_ ?_ ?_ ?_; (focus rfl); (focus (exact fcells_new w3.drew _ _)); (focus (simp [Value.oneCell'])); (focus (exact maxLen_ge (by omega))); (focus omega); (focus (exact (bA (bD (Below.refl _ w3)) (.cells #[.int .i64 ki, .slice B n ck, .int .i64 fr, .int .i64 til] 28)).size)); intro v5 w5 ho5 hg5 _; clear tok1; have hk5 := sk_of ((hg5.block _ (Array.getElem?_eq_some_iff.1 (sk_alloc hk0 (.cells #[.int .i64 ki, .slice B n ck, .int .i64 fr, .int .i64 til] 28)).1).1 (by simp [Value.ownBlock])).trans (sk_alloc hk0 (.cells #[.int .i64 ki, .slice B n ck, .int .i64 fr, .int .i64 til] 28)).1); have hb5 := bG (bA (bD (Below.refl _ w3)) (.cells #[.int .i64 ki, .slice B n ck, .int .i64 fr, .int .i64 til] 28)) hg5 (fun k hk => absurd hk (by simp [Value.ownBlock]))) | (rw [if_pos (by rfl)]; have _t := tok2; refine wpO_nil _ _ 31 rfl w3.heap.size 28 i0 4 Try.underlying31 hi his v5 (0 + 1) _ rfl ho5 c ?_ ?_; (focus (go_loud (rfl))); clear tok2))
  obtain ⟨A2, c2, rfl, hrd⟩ := rdk_own (w0 := w3) (L := [⟨⟨ki, sec, fr, til⟩, B, ck⟩]) (by have h := ho5; rw [← HN.out] at h; exact h) (fun x hx => by obtain rfl := List.mem_singleton.1 hx; exact ⟨by rw [HN.out]; exact HK.out.1, HK.out.2, HS.out.below hbz, HSB.out⟩) hb5
  go_wp2
  go_ret2
  exact ⟨⟨0, A2, c2, Nat.le_refl _, fun j hj => absurd hj (by simp), fun j hj => absurd hj (by simp), rfl, hrd⟩, bT hbz hb5⟩
end Go.Proofs.Ytnbghgenaolfgaa

namespace Go.Proofs.Ytnbghgenaolfgaa
open Go.RowKit
set_option linter.unusedVariables false
set_option maxRecDepth 100000
set_option linter.unusedSimpArgs false

theorem keys_caps {H : Type} {enc : TypeId × Value → H} {W : World} {n : Nat} {A : Option Addr} {len cap : Nat} {x : DataW H × List MemPlace} (h : DataW.trod enc Try.prog W 0 (fun _ => true) true n 31 [.slice A len cap] = some x) : len ≤ cap ∧ cap ≤ 9223372036854775807 := by
  rcases DataW.trod_slice Try.underlying31 h with ⟨hcs, _⟩ | ⟨a, len2, cap2, elems, rest, m, _, hcs, _, _, hle, hmx, hel, hat, _⟩
  · simp only [List.cons.injEq, Value.slice.injEq, and_true] at hcs
    obtain ⟨rfl, rfl, rfl⟩ := hcs
    omega
  · simp only [List.cons.injEq, Value.slice.injEq, and_true] at hcs
    obtain ⟨rfl, rfl, rfl⟩ := hcs
    unfold maxLen at hmx
    omega
theorem ringAdd_yes (A : Option Addr) (c : Nat) (l : List Ky) (ki fr til : Int) (sec : List Int) (B : Option Addr) (n ck : Nat) (hn : sec.length = n) (w : World) (hr : RdK w A l) (hlc : l.length ≤ c) (hc9 : c ≤ 9223372036854775807) (hcn : n ≤ ck) (hck : ck ≤ 9223372036854775807) (hs : RdI w .u8 B sec) (hsb : ∀ x ∈ sec, 0 ≤ x ∧ x < 256)
    (hz : ringB l = true) (hz2 : rightB ⟨ki, sec, fr, til⟩ = true) (ha : (l.any fun x => x.id == ki) = false) :
    Calls Try.prog 33 #[.slice A l.length c, .agg #[.int .i64 ki, .slice B n ck, .int .i64 fr, .int .i64 til]] w (AddRet l ⟨ki, sec, fr, til⟩ w) := by
  cases A with
  | none =>
    rcases hr with rfl | ⟨_, e, _⟩
    · exact ringAdd_none c ki fr til sec B n ck hn w hc9 hcn hck hs hsb hz2
    · cases e
  | some ad => exact ringAdd_some ad c l ki fr til sec B n ck hn w hr hlc hc9 hcn hck hs hsb hz hz2 ha
/-- Whether ring.Add comes through. -/
def addB (l : List Ky) (k : Ky) : Bool := ringB l && rightB k && !(l.any fun x => x.id == k.id)
theorem ringAdd_tells (A : Option Addr) (c : Nat) (l : List Ky) (ki fr til : Int) (sec : List Int) (B : Option Addr) (n ck : Nat) (hn : sec.length = n) (w : World) (hr : RdK w A l) (hlc : l.length ≤ c) (hc9 : c ≤ 9223372036854775807) (hcn : n ≤ ck) (hck : ck ≤ 9223372036854775807) (hs : RdI w .u8 B sec) (hsb : ∀ x ∈ sec, 0 ≤ x ∧ x < 256) :
    Calls Try.prog 33 #[.slice A l.length c, .agg #[.int .i64 ki, .slice B n ck, .int .i64 fr, .int .i64 til]] w fun e w' => (∃ (A2 : Option Addr) (n2 c2 : Nat) (er : Int), e = .returned (.tuple #[.slice A2 n2 c2, .int .i64 er]) ∧ ((er != 0) = !(addB l ⟨ki, sec, fr, til⟩))) ∧ Below w.heap.size w w' := by
  cases h : addB l ⟨ki, sec, fr, til⟩ with
  | false =>
    refine (ringAdd_no A c l ki fr til sec B n ck hn w hr (by omega) h).mono ?_
    rintro e w' ⟨⟨er, he, rfl⟩, hb⟩
    exact ⟨⟨none, 0, 0, er, rfl, by simpa using he⟩, hb⟩
  | true =>
    unfold addB at h
    simp only [Bool.and_eq_true, Bool.not_eq_true'] at h
    refine (ringAdd_yes A c l ki fr til sec B n ck hn w hr hlc hc9 hcn hck hs hsb h.1.1 h.1.2 h.2).mono ?_
    rintro e w' ⟨⟨p, A2, c2, _, _, _, rfl, _⟩, hb⟩
    exact ⟨⟨A2, _, c2, 0, rfl, rfl⟩, hb⟩

end Go.Proofs.Ytnbghgenaolfgaa

namespace Go.Proofs.Ytnbghgenaolfgaa
open Go.RowKit
set_option linter.unusedVariables false
set_option maxRecDepth 100000
set_option linter.unusedSimpArgs false

theorem decT_15 (ks : List Ky) (x t : List Int) : (decT ks x t).1.length = 15 := by
  have hg : (layG x).1.length = 15 := by
    obtain ⟨c0, c1, c2, c3, c4, c5, c6, c7, c8, c9, c10, c11, c12, c13, c14, hc⟩ := layG_15 x
    rw [hc]; rfl
  unfold decT
  split
  · rfl
  · split
    · rfl
    · split
      · exact hg
      · rfl
theorem decS_15 (ks : List Ky) (s : List Int) : (decS ks s).1.length = 15 := by
  unfold decS
  split
  · rfl
  · split
    · rfl
    · split
      · rfl
      · exact decT_15 _ _ _
theorem encS_fail {ks : List Ky} {l : List Int} (h : (encS ks l).2 ≠ 0) : (encS ks l).1 = [] := by
  unfold encS at h ⊢
  split
  · rfl
  · rename_i h1
    rw [if_neg h1] at h
    split
    · rfl
    · rename_i h2
      rw [if_neg h2] at h
      split
      · rfl
      · rename_i k z hf
        rw [hf] at h
        exact trackPut_fail h
set_option maxHeartbeats 8000000 in
set_option maxRecDepth 100000 in
theorem stBack_big (A : Option Addr) (c : Nat) (ks : List Ky) (a0 a1 a2 a3 a4 a5 a6 a7 a8 a9 a10 a11 a12 a13 a14 : Int) (w : World) (hr : RdK w A ks) (hl : ks.length ≤ 9223372036854775807) (b : List Int) (z : Int) (hbg : bigB ks = true) (hE : ∀ W, RdK W A ks → Calls Try.prog 13 #[.slice A ks.length c, .agg #[.int .i64 a0, .int .i64 a1, .int .i64 a2, .int .i64 a3, .int .i64 a4, .int .i64 a5, .int .i64 a6, .int .i64 a7, .int .i64 a8, .int .i64 a9, .int .i64 a10, .int .i64 a11, .int .i64 a12, .int .i64 a13, .int .i64 a14]] W (ByteRetE (b, z) W)) :
    Calls Try.prog 8 #[.slice A ks.length c, .agg #[.int .i64 a0, .int .i64 a1, .int .i64 a2, .int .i64 a3, .int .i64 a4, .int .i64 a5, .int .i64 a6, .int .i64 a7, .int .i64 a8, .int .i64 a9, .int .i64 a10, .int .i64 a11, .int .i64 a12, .int .i64 a13, .int .i64 a14]] w fun e w' => e = .returned (.bool true) ∧ Below w.heap.size w w' := by
  have hB := fun W hW => big_any A c ks W hW hl
  have hr1 := hr.below (bel1 w (.cells #[.int .i64 a0, .int .i64 a1, .int .i64 a2, .int .i64 a3, .int .i64 a4, .int .i64 a5, .int .i64 a6, .int .i64 a7, .int .i64 a8, .int .i64 a9, .int .i64 a10, .int .i64 a11, .int .i64 a12, .int .i64 a13, .int .i64 a14] 36)) (Nat.le_refl _)
  have P1 := heap_alloc_new w (.cells #[.int .i64 a0, .int .i64 a1, .int .i64 a2, .int .i64 a3, .int .i64 a4, .int .i64 a5, .int .i64 a6, .int .i64 a7, .int .i64 a8, .int .i64 a9, .int .i64 a10, .int .i64 a11, .int .i64 a12, .int .i64 a13, .int .i64 a14] 36)
  have B1 := bel1 w (.cells #[.int .i64 a0, .int .i64 a1, .int .i64 a2, .int .i64 a3, .int .i64 a4, .int .i64 a5, .int .i64 a6, .int .i64 a7, .int .i64 a8, .int .i64 a9, .int .i64 a10, .int .i64 a11, .int .i64 a12, .int .i64 a13, .int .i64 a14] 36)
  go_enter Try.func8, Try.ntmps8
  go_wp2_with (first | (go_at_call 13; (with_reducible refine (hE _ hr1).mono ?_); rintro e w2 ⟨v, rfl, _, hb2⟩; have hr2 := hr1.below hb2 (Nat.le_refl _); have B2 := bT B1 hb2; clear hb2) | (go_at_call 15; (with_reducible refine (hB _ hr2).mono ?_); rintro e w3 ⟨he, rfl⟩; rw [hbg] at he; subst he) | (go_at_call 26; (with_reducible refine (coded15_any _).mono ?_); rintro e w4 ⟨rfl, hb4⟩))
  go_ret
  exact ⟨rfl, bT B2 hb4⟩
set_option maxHeartbeats 8000000 in
set_option maxRecDepth 100000 in
theorem stBack_no (A : Option Addr) (c : Nat) (ks : List Ky) (a0 a1 a2 a3 a4 a5 a6 a7 a8 a9 a10 a11 a12 a13 a14 : Int) (w : World) (hr : RdK w A ks) (hl : ks.length ≤ 9223372036854775807) (b : List Int) (z : Int) (hbg : bigB ks = false) (hzb : (z != 0) = true) (hE : ∀ W, RdK W A ks → Calls Try.prog 13 #[.slice A ks.length c, .agg #[.int .i64 a0, .int .i64 a1, .int .i64 a2, .int .i64 a3, .int .i64 a4, .int .i64 a5, .int .i64 a6, .int .i64 a7, .int .i64 a8, .int .i64 a9, .int .i64 a10, .int .i64 a11, .int .i64 a12, .int .i64 a13, .int .i64 a14]] W (ByteRetE (b, z) W)) :
    Calls Try.prog 8 #[.slice A ks.length c, .agg #[.int .i64 a0, .int .i64 a1, .int .i64 a2, .int .i64 a3, .int .i64 a4, .int .i64 a5, .int .i64 a6, .int .i64 a7, .int .i64 a8, .int .i64 a9, .int .i64 a10, .int .i64 a11, .int .i64 a12, .int .i64 a13, .int .i64 a14]] w fun e w' => e = .returned (.bool true) ∧ Below w.heap.size w w' := by
  have hB := fun W hW => big_any A c ks W hW hl
  have hr1 := hr.below (bel1 w (.cells #[.int .i64 a0, .int .i64 a1, .int .i64 a2, .int .i64 a3, .int .i64 a4, .int .i64 a5, .int .i64 a6, .int .i64 a7, .int .i64 a8, .int .i64 a9, .int .i64 a10, .int .i64 a11, .int .i64 a12, .int .i64 a13, .int .i64 a14] 36)) (Nat.le_refl _)
  have P1 := heap_alloc_new w (.cells #[.int .i64 a0, .int .i64 a1, .int .i64 a2, .int .i64 a3, .int .i64 a4, .int .i64 a5, .int .i64 a6, .int .i64 a7, .int .i64 a8, .int .i64 a9, .int .i64 a10, .int .i64 a11, .int .i64 a12, .int .i64 a13, .int .i64 a14] 36)
  have B1 := bel1 w (.cells #[.int .i64 a0, .int .i64 a1, .int .i64 a2, .int .i64 a3, .int .i64 a4, .int .i64 a5, .int .i64 a6, .int .i64 a7, .int .i64 a8, .int .i64 a9, .int .i64 a10, .int .i64 a11, .int .i64 a12, .int .i64 a13, .int .i64 a14] 36)
  go_enter Try.func8, Try.ntmps8
  go_wp2_with (first | (go_at_call 13; (with_reducible refine (hE _ hr1).mono ?_); rintro e w2 ⟨v, rfl, _, hb2⟩; have hr2 := hr1.below hb2 (Nat.le_refl _); have B2 := bT B1 hb2; clear hb2) | (go_at_call 15; (with_reducible refine (hB _ hr2).mono ?_); rintro e w3 ⟨he, rfl⟩; rw [hbg] at he; subst he) | (go_at_call 26; (with_reducible refine (coded15_any _).mono ?_); rintro e w4 ⟨rfl, hb4⟩))
  go_ret
  exact ⟨rfl, bT B2 hb4⟩
set_option maxHeartbeats 8000000 in
set_option maxRecDepth 100000 in
theorem stBack_track (A : Option Addr) (c : Nat) (ks : List Ky) (a0 a1 a2 a3 a4 a5 a6 a7 a8 a9 a10 a11 a12 a13 a14 : Int) (w : World) (hr : RdK w A ks) (hl : ks.length ≤ 9223372036854775807) (b t Gl : List Int) (n : Nat) (hbg : bigB ks = false) (hE : ∀ W, RdK W A ks → Calls Try.prog 13 #[.slice A ks.length c, .agg #[.int .i64 a0, .int .i64 a1, .int .i64 a2, .int .i64 a3, .int .i64 a4, .int .i64 a5, .int .i64 a6, .int .i64 a7, .int .i64 a8, .int .i64 a9, .int .i64 a10, .int .i64 a11, .int .i64 a12, .int .i64 a13, .int .i64 a14]] W (ByteRetE (b, 0) W)) (hD1 : ∀ As cs W, RdK W A ks → RdI W .u8 As b → Calls Try.prog 29 #[.slice A ks.length c, .slice As n cs] W fun e w' => e = .returned (.tuple #[.agg #[.int .i64 a0, .int .i64 a1, .int .i64 a2, .int .i64 a3, .int .i64 a4, .int .i64 a5, .int .i64 a6, .int .i64 a7, .int .i64 a8, .int .i64 a9, .int .i64 a10, .int .i64 a11, .int .i64 a12, .int .i64 a13, .int .i64 a14], .int .i64 0]) ∧ Below W.heap.size W w') (hTu : ∀ A' c' W, RdI W .u8 A' b → Calls Try.prog 30 #[.slice A' n c'] W fun e w' => (∃ g, e = .returned (.slice (some ⟨g, 0, none⟩) n n) ∧ w'.ownsRow W.heap.size 5 1 (.slice (some ⟨g, 0, none⟩) n n) n (bv t)) ∧ Below W.heap.size W w') (HN : Hid (b.length = n)) (HT : Hid (t.length = n)) (hG : ∀ A' c' W, RdI W .u8 A' t → Calls Try.prog 31 #[.slice A' n c'] W (ByteRetE (Gl, 0) W)) (yl : List Int) (yz : Int) (hy : yl.length = 15) (hD2 : ∀ As cs W, RdK W A ks → RdI W .u8 As t → Calls Try.prog 29 #[.slice A ks.length c, .slice As n cs] W fun e w' => e = .returned (.tuple #[.agg (rdC yl), .int .i64 yz]) ∧ Below W.heap.size W w') :
    Calls Try.prog 8 #[.slice A ks.length c, .agg #[.int .i64 a0, .int .i64 a1, .int .i64 a2, .int .i64 a3, .int .i64 a4, .int .i64 a5, .int .i64 a6, .int .i64 a7, .int .i64 a8, .int .i64 a9, .int .i64 a10, .int .i64 a11, .int .i64 a12, .int .i64 a13, .int .i64 a14]] w fun e w' => e = .returned (.bool true) ∧ Below w.heap.size w w' := by
  have hB := fun W hW => big_any A c ks W hW hl
  have hr1 := hr.below (bel1 w (.cells #[.int .i64 a0, .int .i64 a1, .int .i64 a2, .int .i64 a3, .int .i64 a4, .int .i64 a5, .int .i64 a6, .int .i64 a7, .int .i64 a8, .int .i64 a9, .int .i64 a10, .int .i64 a11, .int .i64 a12, .int .i64 a13, .int .i64 a14] 36)) (Nat.le_refl _)
  have P1 := heap_alloc_new w (.cells #[.int .i64 a0, .int .i64 a1, .int .i64 a2, .int .i64 a3, .int .i64 a4, .int .i64 a5, .int .i64 a6, .int .i64 a7, .int .i64 a8, .int .i64 a9, .int .i64 a10, .int .i64 a11, .int .i64 a12, .int .i64 a13, .int .i64 a14] 36)
  have B1 := bel1 w (.cells #[.int .i64 a0, .int .i64 a1, .int .i64 a2, .int .i64 a3, .int .i64 a4, .int .i64 a5, .int .i64 a6, .int .i64 a7, .int .i64 a8, .int .i64 a9, .int .i64 a10, .int .i64 a11, .int .i64 a12, .int .i64 a13, .int .i64 a14] 36)
  go_enter Try.func8, Try.ntmps8
  go_wp2_with (first | (go_at_call 13; (with_reducible refine (hE _ hr1).mono ?_); rintro e w2 ⟨v, rfl, ho, hb2⟩; replace ho : w2.ownsRow (w.alloc (.cells #[.int .i64 a0, .int .i64 a1, .int .i64 a2, .int .i64 a3, .int .i64 a4, .int .i64 a5, .int .i64 a6, .int .i64 a7, .int .i64 a8, .int .i64 a9, .int .i64 a10, .int .i64 a11, .int .i64 a12, .int .i64 a13, .int .i64 a14] 36)).heap.size 5 1 v b.length (b.map (.int .u8)) := ho; rw [HN.out] at ho; obtain ⟨As, cs, rfl, _, _⟩ := own_slice ho; have S2 := rd_own_len HN.out ho; have K2 := hr1.below hb2 (Nat.le_refl _); have P2 := (hb2.block _ (Array.getElem?_eq_some_iff.1 P1).1).trans P1; have B2 := bT B1 hb2; clear hb2 ho) | (go_at_call 15; (with_reducible refine (hB _ K2).mono ?_); rintro e w3 ⟨he, rfl⟩; rw [hbg] at he; subst he) | (go_at_call 29; (with_reducible refine (hD1 As cs _ K2 S2).mono ?_); rintro e w3 ⟨rfl, hb3⟩; have hA3 := bA hb3 (.cells #[.int .i64 a0, .int .i64 a1, .int .i64 a2, .int .i64 a3, .int .i64 a4, .int .i64 a5, .int .i64 a6, .int .i64 a7, .int .i64 a8, .int .i64 a9, .int .i64 a10, .int .i64 a11, .int .i64 a12, .int .i64 a13, .int .i64 a14] 36); have X3 := heap_alloc_new w3 (.cells #[.int .i64 a0, .int .i64 a1, .int .i64 a2, .int .i64 a3, .int .i64 a4, .int .i64 a5, .int .i64 a6, .int .i64 a7, .int .i64 a8, .int .i64 a9, .int .i64 a10, .int .i64 a11, .int .i64 a12, .int .i64 a13, .int .i64 a14] 36); have K3 := K2.below hA3 (Nat.le_refl _); have S3 := S2.below hA3; have P3 := (hA3.block _ (Array.getElem?_eq_some_iff.1 P2).1).trans P2; have B3 := bT B2 hA3; clear hb3 hA3) | (go_at_call 30; (with_reducible refine (hTu _ _ _ S3).mono ?_); rintro e w4 ⟨⟨g4, rfl, ho4⟩, hb4⟩; have T4 := rd_own_len HT.out ho4; have K4 := K3.below hb4 (Nat.le_refl _); have S4 := S3.below hb4; have P4 := (hb4.block _ (Array.getElem?_eq_some_iff.1 P3).1).trans P3; have X4 := (hb4.block _ (Array.getElem?_eq_some_iff.1 X3).1).trans X3; have B4 := bT B3 hb4; have cx0 := cell_of_row _ w3.heap.size 0 _ _ _ X4; have cp0 := cell_of_row _ w.heap.size 0 _ _ _ P4; have cx1 := cell_of_row _ w3.heap.size 1 _ _ _ X4; have cp1 := cell_of_row _ w.heap.size 1 _ _ _ P4; have cx2 := cell_of_row _ w3.heap.size 2 _ _ _ X4; have cp2 := cell_of_row _ w.heap.size 2 _ _ _ P4; have cx3 := cell_of_row _ w3.heap.size 3 _ _ _ X4; have cp3 := cell_of_row _ w.heap.size 3 _ _ _ P4; have cx4 := cell_of_row _ w3.heap.size 4 _ _ _ X4; have cp4 := cell_of_row _ w.heap.size 4 _ _ _ P4; have cx5 := cell_of_row _ w3.heap.size 5 _ _ _ X4; have cp5 := cell_of_row _ w.heap.size 5 _ _ _ P4; have cx6 := cell_of_row _ w3.heap.size 6 _ _ _ X4; have cp6 := cell_of_row _ w.heap.size 6 _ _ _ P4; have cx7 := cell_of_row _ w3.heap.size 7 _ _ _ X4; have cp7 := cell_of_row _ w.heap.size 7 _ _ _ P4; have cx8 := cell_of_row _ w3.heap.size 8 _ _ _ X4; have cp8 := cell_of_row _ w.heap.size 8 _ _ _ P4; have cx9 := cell_of_row _ w3.heap.size 9 _ _ _ X4; have cp9 := cell_of_row _ w.heap.size 9 _ _ _ P4; have cx10 := cell_of_row _ w3.heap.size 10 _ _ _ X4; have cp10 := cell_of_row _ w.heap.size 10 _ _ _ P4; have cx11 := cell_of_row _ w3.heap.size 11 _ _ _ X4; have cp11 := cell_of_row _ w.heap.size 11 _ _ _ P4; have cx12 := cell_of_row _ w3.heap.size 12 _ _ _ X4; have cp12 := cell_of_row _ w.heap.size 12 _ _ _ P4; have cx13 := cell_of_row _ w3.heap.size 13 _ _ _ X4; have cp13 := cell_of_row _ w.heap.size 13 _ _ _ P4; have cx14 := cell_of_row _ w3.heap.size 14 _ _ _ X4; have cp14 := cell_of_row _ w.heap.size 14 _ _ _ P4; clear ho4 hb4) | (go_at_call 31; (with_reducible refine (hG _ _ _ T4).mono ?_); rintro e w5 ⟨v5, rfl, _, hb5⟩; have T5 := T4.below hb5; have K5 := K4.below hb5 (Nat.le_refl _); have S5 := S4.below hb5; have P5 := (hb5.block _ (Array.getElem?_eq_some_iff.1 P4).1).trans P4; have B5 := bT B4 hb5; clear hb5) | (go_at_call 29; (with_reducible refine (hD2 _ _ _ K5 T5).mono ?_); rintro e w6 ⟨rfl, hb6⟩; have hA6 := bA hb6 (.cells #[.int .i64 0, .int .i64 0, .int .i64 0, .int .i64 0, .int .i64 0, .int .i64 0, .int .i64 0, .int .i64 0, .int .i64 0, .int .i64 0, .int .i64 0, .int .i64 0, .int .i64 0, .int .i64 0, .int .i64 0] 36); have Y6 := heap_alloc_new w6 (.cells #[.int .i64 0, .int .i64 0, .int .i64 0, .int .i64 0, .int .i64 0, .int .i64 0, .int .i64 0, .int .i64 0, .int .i64 0, .int .i64 0, .int .i64 0, .int .i64 0, .int .i64 0, .int .i64 0, .int .i64 0] 36); have B6 := bT B5 hA6; have hz6 := (bT B5 hb6).size; have B8 : Below w.heap.size w ((w6.alloc (.cells #[.int .i64 0, .int .i64 0, .int .i64 0, .int .i64 0, .int .i64 0, .int .i64 0, .int .i64 0, .int .i64 0, .int .i64 0, .int .i64 0, .int .i64 0, .int .i64 0, .int .i64 0, .int .i64 0, .int .i64 0] 36)).setRow w6.heap.size (rdC yl)) := setRow_below B6 hz6; clear hb6 hA6) | (refine wpList_store_row rfl 36 _ _ rfl w6.heap.size (rdC yl) rfl rfl 36 _ Y6 ?_ ?_ (rdC_one _) ?_; (focus (rw [rdC_size hy]; exact infoR)); (focus (rw [rdC_size hy]; rfl))) | (go_at_call 26; (with_reducible refine (coded15_any _).mono ?_); rintro e w9 ⟨rfl, hb9⟩))
  go_ret
  exact ⟨rfl, bT B8 hb9⟩
set_option maxHeartbeats 8000000 in
set_option maxRecDepth 100000 in
theorem stBack_turned (A : Option Addr) (c : Nat) (ks : List Ky) (a0 a1 a2 a3 a4 a5 a6 a7 a8 a9 a10 a11 a12 a13 a14 : Int) (w : World) (hr : RdK w A ks) (hl : ks.length ≤ 9223372036854775807) (b t Gl : List Int) (n : Nat) (hbg : bigB ks = false) (hE : ∀ W, RdK W A ks → Calls Try.prog 13 #[.slice A ks.length c, .agg #[.int .i64 a0, .int .i64 a1, .int .i64 a2, .int .i64 a3, .int .i64 a4, .int .i64 a5, .int .i64 a6, .int .i64 a7, .int .i64 a8, .int .i64 a9, .int .i64 a10, .int .i64 a11, .int .i64 a12, .int .i64 a13, .int .i64 a14]] W (ByteRetE (b, 0) W)) (hD1 : ∀ As cs W, RdK W A ks → RdI W .u8 As b → Calls Try.prog 29 #[.slice A ks.length c, .slice As n cs] W fun e w' => e = .returned (.tuple #[.agg #[.int .i64 a0, .int .i64 a1, .int .i64 a2, .int .i64 a3, .int .i64 a4, .int .i64 a5, .int .i64 a6, .int .i64 a7, .int .i64 a8, .int .i64 a9, .int .i64 a10, .int .i64 a11, .int .i64 a12, .int .i64 a13, .int .i64 a14], .int .i64 0]) ∧ Below W.heap.size W w') (hTu : ∀ A' c' W, RdI W .u8 A' b → Calls Try.prog 30 #[.slice A' n c'] W fun e w' => (∃ g, e = .returned (.slice (some ⟨g, 0, none⟩) n n) ∧ w'.ownsRow W.heap.size 5 1 (.slice (some ⟨g, 0, none⟩) n n) n (bv t)) ∧ Below W.heap.size W w') (HN : Hid (b.length = n)) (HT : Hid (t.length = n)) (Gz : Int) (hgz : (Gz == 0) = false) (hG : ∀ A' c' W, RdI W .u8 A' t → Calls Try.prog 31 #[.slice A' n c'] W (ByteRetE (Gl, Gz) W)) (hD2 : ∀ As cs W, RdK W A ks → RdI W .u8 As t → Calls Try.prog 29 #[.slice A ks.length c, .slice As n cs] W fun e w' => e = .returned (.tuple #[.agg #[.int .i64 a0, .int .i64 a1, .int .i64 a2, .int .i64 a3, .int .i64 a4, .int .i64 a5, .int .i64 a6, .int .i64 a7, .int .i64 a8, .int .i64 a9, .int .i64 a10, .int .i64 a11, .int .i64 a12, .int .i64 a13, .int .i64 a14], .int .i64 0]) ∧ Below W.heap.size W w') :
    Calls Try.prog 8 #[.slice A ks.length c, .agg #[.int .i64 a0, .int .i64 a1, .int .i64 a2, .int .i64 a3, .int .i64 a4, .int .i64 a5, .int .i64 a6, .int .i64 a7, .int .i64 a8, .int .i64 a9, .int .i64 a10, .int .i64 a11, .int .i64 a12, .int .i64 a13, .int .i64 a14]] w fun e w' => e = .returned (.bool true) ∧ Below w.heap.size w w' := by
  have hB := fun W hW => big_any A c ks W hW hl
  have hr1 := hr.below (bel1 w (.cells #[.int .i64 a0, .int .i64 a1, .int .i64 a2, .int .i64 a3, .int .i64 a4, .int .i64 a5, .int .i64 a6, .int .i64 a7, .int .i64 a8, .int .i64 a9, .int .i64 a10, .int .i64 a11, .int .i64 a12, .int .i64 a13, .int .i64 a14] 36)) (Nat.le_refl _)
  have P1 := heap_alloc_new w (.cells #[.int .i64 a0, .int .i64 a1, .int .i64 a2, .int .i64 a3, .int .i64 a4, .int .i64 a5, .int .i64 a6, .int .i64 a7, .int .i64 a8, .int .i64 a9, .int .i64 a10, .int .i64 a11, .int .i64 a12, .int .i64 a13, .int .i64 a14] 36)
  have B1 := bel1 w (.cells #[.int .i64 a0, .int .i64 a1, .int .i64 a2, .int .i64 a3, .int .i64 a4, .int .i64 a5, .int .i64 a6, .int .i64 a7, .int .i64 a8, .int .i64 a9, .int .i64 a10, .int .i64 a11, .int .i64 a12, .int .i64 a13, .int .i64 a14] 36)
  go_enter Try.func8, Try.ntmps8
  go_wp2_with (first | (go_at_call 13; (with_reducible refine (hE _ hr1).mono ?_); rintro e w2 ⟨v, rfl, ho, hb2⟩; replace ho : w2.ownsRow (w.alloc (.cells #[.int .i64 a0, .int .i64 a1, .int .i64 a2, .int .i64 a3, .int .i64 a4, .int .i64 a5, .int .i64 a6, .int .i64 a7, .int .i64 a8, .int .i64 a9, .int .i64 a10, .int .i64 a11, .int .i64 a12, .int .i64 a13, .int .i64 a14] 36)).heap.size 5 1 v b.length (b.map (.int .u8)) := ho; rw [HN.out] at ho; obtain ⟨As, cs, rfl, _, _⟩ := own_slice ho; have S2 := rd_own_len HN.out ho; have K2 := hr1.below hb2 (Nat.le_refl _); have P2 := (hb2.block _ (Array.getElem?_eq_some_iff.1 P1).1).trans P1; have B2 := bT B1 hb2; clear hb2 ho) | (go_at_call 15; (with_reducible refine (hB _ K2).mono ?_); rintro e w3 ⟨he, rfl⟩; rw [hbg] at he; subst he) | (go_at_call 29; (with_reducible refine (hD1 As cs _ K2 S2).mono ?_); rintro e w3 ⟨rfl, hb3⟩; have hA3 := bA hb3 (.cells #[.int .i64 a0, .int .i64 a1, .int .i64 a2, .int .i64 a3, .int .i64 a4, .int .i64 a5, .int .i64 a6, .int .i64 a7, .int .i64 a8, .int .i64 a9, .int .i64 a10, .int .i64 a11, .int .i64 a12, .int .i64 a13, .int .i64 a14] 36); have X3 := heap_alloc_new w3 (.cells #[.int .i64 a0, .int .i64 a1, .int .i64 a2, .int .i64 a3, .int .i64 a4, .int .i64 a5, .int .i64 a6, .int .i64 a7, .int .i64 a8, .int .i64 a9, .int .i64 a10, .int .i64 a11, .int .i64 a12, .int .i64 a13, .int .i64 a14] 36); have K3 := K2.below hA3 (Nat.le_refl _); have S3 := S2.below hA3; have P3 := (hA3.block _ (Array.getElem?_eq_some_iff.1 P2).1).trans P2; have B3 := bT B2 hA3; clear hb3 hA3) | (go_at_call 30; (with_reducible refine (hTu _ _ _ S3).mono ?_); rintro e w4 ⟨⟨g4, rfl, ho4⟩, hb4⟩; have T4 := rd_own_len HT.out ho4; have K4 := K3.below hb4 (Nat.le_refl _); have S4 := S3.below hb4; have P4 := (hb4.block _ (Array.getElem?_eq_some_iff.1 P3).1).trans P3; have X4 := (hb4.block _ (Array.getElem?_eq_some_iff.1 X3).1).trans X3; have B4 := bT B3 hb4; have cx0 := cell_of_row _ w3.heap.size 0 _ _ _ X4; have cp0 := cell_of_row _ w.heap.size 0 _ _ _ P4; have cx1 := cell_of_row _ w3.heap.size 1 _ _ _ X4; have cp1 := cell_of_row _ w.heap.size 1 _ _ _ P4; have cx2 := cell_of_row _ w3.heap.size 2 _ _ _ X4; have cp2 := cell_of_row _ w.heap.size 2 _ _ _ P4; have cx3 := cell_of_row _ w3.heap.size 3 _ _ _ X4; have cp3 := cell_of_row _ w.heap.size 3 _ _ _ P4; have cx4 := cell_of_row _ w3.heap.size 4 _ _ _ X4; have cp4 := cell_of_row _ w.heap.size 4 _ _ _ P4; have cx5 := cell_of_row _ w3.heap.size 5 _ _ _ X4; have cp5 := cell_of_row _ w.heap.size 5 _ _ _ P4; have cx6 := cell_of_row _ w3.heap.size 6 _ _ _ X4; have cp6 := cell_of_row _ w.heap.size 6 _ _ _ P4; have cx7 := cell_of_row _ w3.heap.size 7 _ _ _ X4; have cp7 := cell_of_row _ w.heap.size 7 _ _ _ P4; have cx8 := cell_of_row _ w3.heap.size 8 _ _ _ X4; have cp8 := cell_of_row _ w.heap.size 8 _ _ _ P4; have cx9 := cell_of_row _ w3.heap.size 9 _ _ _ X4; have cp9 := cell_of_row _ w.heap.size 9 _ _ _ P4; have cx10 := cell_of_row _ w3.heap.size 10 _ _ _ X4; have cp10 := cell_of_row _ w.heap.size 10 _ _ _ P4; have cx11 := cell_of_row _ w3.heap.size 11 _ _ _ X4; have cp11 := cell_of_row _ w.heap.size 11 _ _ _ P4; have cx12 := cell_of_row _ w3.heap.size 12 _ _ _ X4; have cp12 := cell_of_row _ w.heap.size 12 _ _ _ P4; have cx13 := cell_of_row _ w3.heap.size 13 _ _ _ X4; have cp13 := cell_of_row _ w.heap.size 13 _ _ _ P4; have cx14 := cell_of_row _ w3.heap.size 14 _ _ _ X4; have cp14 := cell_of_row _ w.heap.size 14 _ _ _ P4; clear ho4 hb4) | (go_at_call 31; (with_reducible refine (hG _ _ _ T4).mono ?_); rintro e w5 ⟨v5, rfl, _, hb5⟩; have T5 := T4.below hb5; have K5 := K4.below hb5 (Nat.le_refl _); have S5 := S4.below hb5; have P5 := (hb5.block _ (Array.getElem?_eq_some_iff.1 P4).1).trans P4; have B5 := bT B4 hb5; clear hb5) | (go_at_call 29; (with_reducible refine (hD2 _ _ _ K5 T5).mono ?_); rintro e w6 ⟨rfl, hb6⟩; have hA6 := bA hb6 (.cells #[.int .i64 a0, .int .i64 a1, .int .i64 a2, .int .i64 a3, .int .i64 a4, .int .i64 a5, .int .i64 a6, .int .i64 a7, .int .i64 a8, .int .i64 a9, .int .i64 a10, .int .i64 a11, .int .i64 a12, .int .i64 a13, .int .i64 a14] 36); have Y6 := heap_alloc_new w6 (.cells #[.int .i64 a0, .int .i64 a1, .int .i64 a2, .int .i64 a3, .int .i64 a4, .int .i64 a5, .int .i64 a6, .int .i64 a7, .int .i64 a8, .int .i64 a9, .int .i64 a10, .int .i64 a11, .int .i64 a12, .int .i64 a13, .int .i64 a14] 36); have P6 := (hA6.block _ (Array.getElem?_eq_some_iff.1 P5).1).trans P5; have B8 := bT B5 hA6; clear hb6 hA6) | (go_at_call 26; (with_reducible refine (coded15_any _).mono ?_); rintro e w9 ⟨rfl, hb9⟩; have cy0 := cell_of_row _ w6.heap.size 0 _ _ _ ((hb9.block _ (Array.getElem?_eq_some_iff.1 Y6).1).trans Y6); have cq0 := cell_of_row _ w.heap.size 0 _ _ _ ((hb9.block _ (Array.getElem?_eq_some_iff.1 P6).1).trans P6); have cy1 := cell_of_row _ w6.heap.size 1 _ _ _ ((hb9.block _ (Array.getElem?_eq_some_iff.1 Y6).1).trans Y6); have cq1 := cell_of_row _ w.heap.size 1 _ _ _ ((hb9.block _ (Array.getElem?_eq_some_iff.1 P6).1).trans P6); have cy2 := cell_of_row _ w6.heap.size 2 _ _ _ ((hb9.block _ (Array.getElem?_eq_some_iff.1 Y6).1).trans Y6); have cq2 := cell_of_row _ w.heap.size 2 _ _ _ ((hb9.block _ (Array.getElem?_eq_some_iff.1 P6).1).trans P6); have cy3 := cell_of_row _ w6.heap.size 3 _ _ _ ((hb9.block _ (Array.getElem?_eq_some_iff.1 Y6).1).trans Y6); have cq3 := cell_of_row _ w.heap.size 3 _ _ _ ((hb9.block _ (Array.getElem?_eq_some_iff.1 P6).1).trans P6); have cy4 := cell_of_row _ w6.heap.size 4 _ _ _ ((hb9.block _ (Array.getElem?_eq_some_iff.1 Y6).1).trans Y6); have cq4 := cell_of_row _ w.heap.size 4 _ _ _ ((hb9.block _ (Array.getElem?_eq_some_iff.1 P6).1).trans P6); have cy5 := cell_of_row _ w6.heap.size 5 _ _ _ ((hb9.block _ (Array.getElem?_eq_some_iff.1 Y6).1).trans Y6); have cq5 := cell_of_row _ w.heap.size 5 _ _ _ ((hb9.block _ (Array.getElem?_eq_some_iff.1 P6).1).trans P6); have cy6 := cell_of_row _ w6.heap.size 6 _ _ _ ((hb9.block _ (Array.getElem?_eq_some_iff.1 Y6).1).trans Y6); have cq6 := cell_of_row _ w.heap.size 6 _ _ _ ((hb9.block _ (Array.getElem?_eq_some_iff.1 P6).1).trans P6); have cy7 := cell_of_row _ w6.heap.size 7 _ _ _ ((hb9.block _ (Array.getElem?_eq_some_iff.1 Y6).1).trans Y6); have cq7 := cell_of_row _ w.heap.size 7 _ _ _ ((hb9.block _ (Array.getElem?_eq_some_iff.1 P6).1).trans P6); have cy8 := cell_of_row _ w6.heap.size 8 _ _ _ ((hb9.block _ (Array.getElem?_eq_some_iff.1 Y6).1).trans Y6); have cq8 := cell_of_row _ w.heap.size 8 _ _ _ ((hb9.block _ (Array.getElem?_eq_some_iff.1 P6).1).trans P6); have cy9 := cell_of_row _ w6.heap.size 9 _ _ _ ((hb9.block _ (Array.getElem?_eq_some_iff.1 Y6).1).trans Y6); have cq9 := cell_of_row _ w.heap.size 9 _ _ _ ((hb9.block _ (Array.getElem?_eq_some_iff.1 P6).1).trans P6); have cy10 := cell_of_row _ w6.heap.size 10 _ _ _ ((hb9.block _ (Array.getElem?_eq_some_iff.1 Y6).1).trans Y6); have cq10 := cell_of_row _ w.heap.size 10 _ _ _ ((hb9.block _ (Array.getElem?_eq_some_iff.1 P6).1).trans P6); have cy11 := cell_of_row _ w6.heap.size 11 _ _ _ ((hb9.block _ (Array.getElem?_eq_some_iff.1 Y6).1).trans Y6); have cq11 := cell_of_row _ w.heap.size 11 _ _ _ ((hb9.block _ (Array.getElem?_eq_some_iff.1 P6).1).trans P6); have cy12 := cell_of_row _ w6.heap.size 12 _ _ _ ((hb9.block _ (Array.getElem?_eq_some_iff.1 Y6).1).trans Y6); have cq12 := cell_of_row _ w.heap.size 12 _ _ _ ((hb9.block _ (Array.getElem?_eq_some_iff.1 P6).1).trans P6); have cy13 := cell_of_row _ w6.heap.size 13 _ _ _ ((hb9.block _ (Array.getElem?_eq_some_iff.1 Y6).1).trans Y6); have cq13 := cell_of_row _ w.heap.size 13 _ _ _ ((hb9.block _ (Array.getElem?_eq_some_iff.1 P6).1).trans P6); have cy14 := cell_of_row _ w6.heap.size 14 _ _ _ ((hb9.block _ (Array.getElem?_eq_some_iff.1 Y6).1).trans Y6); have cq14 := cell_of_row _ w.heap.size 14 _ _ _ ((hb9.block _ (Array.getElem?_eq_some_iff.1 P6).1).trans P6)))
  go_ret
  exact ⟨by simp, bT B8 hb9⟩
theorem stripeBack_any (A : Option Addr) (c : Nat) (ks : List Ky) (a0 a1 a2 a3 a4 a5 a6 a7 a8 a9 a10 a11 a12 a13 a14 : Int) (w : World) (hr : RdK w A ks) (hl : ks.length ≤ 9223372036854775807) (hv : ∀ x ∈ [a0, a1, a2, a3, a4, a5, a6, a7, a8, a9, a10, a11, a12, a13, a14], x ≤ 9223372036854775807) :
    Calls Try.prog 8 #[.slice A ks.length c, .agg #[.int .i64 a0, .int .i64 a1, .int .i64 a2, .int .i64 a3, .int .i64 a4, .int .i64 a5, .int .i64 a6, .int .i64 a7, .int .i64 a8, .int .i64 a9, .int .i64 a10, .int .i64 a11, .int .i64 a12, .int .i64 a13, .int .i64 a14]] w fun e w' => e = .returned (.bool true) ∧ Below w.heap.size w w' := by
  have hE := fun W hW => stEncode_any A c ks a0 a1 a2 a3 a4 a5 a6 a7 a8 a9 a10 a11 a12 a13 a14 W hW hl hv
  have hbk := fun b => st_back (ks := ks) (l := [a0, a1, a2, a3, a4, a5, a6, a7, a8, a9, a10, a11, a12, a13, a14]) (b := b) rfl
  generalize encS ks [a0, a1, a2, a3, a4, a5, a6, a7, a8, a9, a10, a11, a12, a13, a14] = rv at *
  obtain ⟨b, z⟩ := rv
  cases hbg : bigB ks
  rotate_left
  · exact stBack_big A c ks a0 a1 a2 a3 a4 a5 a6 a7 a8 a9 a10 a11 a12 a13 a14 w hr hl b z hbg hE
  by_cases h0 : z = 0
  rotate_left
  · exact stBack_no A c ks a0 a1 a2 a3 a4 a5 a6 a7 a8 a9 a10 a11 a12 a13 a14 w hr hl b z hbg (by simpa using h0) hE
  subst h0
  obtain ⟨d1, d2, d3, d4⟩ := hbk b rfl
  have tl := turn_len b
  have tb := turn_byte b
  have hTu : ∀ A' c' W, RdI W .u8 A' b → Calls Try.prog 30 #[.slice A' b.length c'] W fun e w' => (∃ g, e = .returned (.slice (some ⟨g, 0, none⟩) b.length b.length) ∧ w'.ownsRow W.heap.size 5 1 (.slice (some ⟨g, 0, none⟩) b.length b.length) b.length (bv (turnB b))) ∧ Below W.heap.size W w' := fun A' c' W h => turn_any A' c' b W h (by omega) d3
  have hD1 : ∀ As cs W, RdK W A ks → RdI W .u8 As b → Calls Try.prog 29 #[.slice A ks.length c, .slice As b.length cs] W fun e w' => e = .returned (.tuple #[.agg #[.int .i64 a0, .int .i64 a1, .int .i64 a2, .int .i64 a3, .int .i64 a4, .int .i64 a5, .int .i64 a6, .int .i64 a7, .int .i64 a8, .int .i64 a9, .int .i64 a10, .int .i64 a11, .int .i64 a12, .int .i64 a13, .int .i64 a14], .int .i64 0]) ∧ Below W.heap.size W w' := by
    intro As cs W g1 g2
    have h := stDecode_any A c ks As cs b W g1 hl g2 (by omega) d3
    rw [d1] at h
    exact h
  have hG := fun A' c' W h => trackGet_len A' c' b.length (turnB b) W tl h tb
  have hD2 : ∀ As cs W, RdK W A ks → RdI W .u8 As (turnB b) → Calls Try.prog 29 #[.slice A ks.length c, .slice As b.length cs] W (GetRet (decS ks (turnB b)) W) := by
    intro As cs W g1 g2
    have h := stDecode_any A c ks As cs (turnB b) W g1 hl g2 (by rw [tl]; omega) tb
    rw [tl] at h
    exact h
  by_cases ht : (trackGet (turnB b)).2 = 0
  · refine stBack_track A c ks a0 a1 a2 a3 a4 a5 a6 a7 a8 a9 a10 a11 a12 a13 a14 w hr hl b (turnB b) (trackGet (turnB b)).1 b.length hbg hE hD1 hTu (Lib.hid rfl) (Lib.hid tl) ?_ (decS ks (turnB b)).1 (decS ks (turnB b)).2 (decS_15 _ _) hD2
    intro A' c' W h
    have h2 := hG A' c' W h
    rw [show trackGet (turnB b) = ((trackGet (turnB b)).1, 0) from Prod.ext rfl ht] at h2
    exact h2
  · refine stBack_turned A c ks a0 a1 a2 a3 a4 a5 a6 a7 a8 a9 a10 a11 a12 a13 a14 w hr hl b (turnB b) (trackGet (turnB b)).1 b.length hbg hE hD1 hTu (Lib.hid rfl) (Lib.hid tl) (trackGet (turnB b)).2 (by simpa using ht) hG ?_
    rw [d2 ht] at hD2
    exact hD2
end Go.Proofs.Ytnbghgenaolfgaa

namespace Go.Proofs.Ytnbghgenaolfgaa
open Go.RowKit
set_option linter.unusedVariables false
set_option maxRecDepth 100000
set_option linter.unusedSimpArgs false

set_option maxHeartbeats 8000000 in
set_option maxRecDepth 100000 in
theorem stripeKeys_bad (A : Option Addr) (c : Nat) (l : List Ky) (As : Option Addr) (cs m : Nat) (s : List Int) (ki fr til : Int) (sec : List Int) (B : Option Addr) (n ck : Nat) (w : World) (hm : s.length = m) (hn : sec.length = n) (hr : RdK w A l) (hlc : l.length ≤ c) (hc9 : c ≤ 9223372036854775807) (hcn : n ≤ ck) (hck : ck ≤ 9223372036854775807) (hs : RdI w .u8 B sec) (hsb : ∀ x ∈ sec, 0 ≤ x ∧ x < 256)
    (b1 b2 b3 b4 : Bool) (hbg : bigB l = b1) (d2 : decide ((1000 : Int) < (m : Int)) = b2) (d3 : decide ((200 : Int) < (n : Int)) = b3) (d4 : addB l ⟨ki, sec, fr, til⟩ = b4) (hany : b1 = true ∨ b2 = true ∨ b3 = true ∨ b4 = false) :
    Calls Try.prog 10 #[.slice A l.length c, .slice As m cs, .agg #[.int .i64 ki, .slice B n ck, .int .i64 fr, .int .i64 til]] w fun e w' => e = .returned (.bool true) ∧ Below w.heap.size w w' := by
  have hl : l.length ≤ 9223372036854775807 := by omega
  have hBg := fun W hW => big_any A c l W hW hl
  have hr0 := hr.below (bel1 w (.cells #[.int .i64 ki, .slice B n ck, .int .i64 fr, .int .i64 til] 28)) (Nat.le_refl _)
  have hF0 := heap_alloc_new w (.cells #[.int .i64 ki, .slice B n ck, .int .i64 fr, .int .i64 til] 28)
  have hb0 := bel1 w (.cells #[.int .i64 ki, .slice B n ck, .int .i64 fr, .int .i64 til] 28)
  have hs0 := hs.below hb0
  have hA := ringAdd_tells A c l ki fr til sec B n ck hn (w.alloc (.cells #[.int .i64 ki, .slice B n ck, .int .i64 fr, .int .i64 til] 28)) hr0 hlc hc9 hcn hck hs0 hsb
  rw [d4] at hA
  clear d4
  have HN := Lib.hid hn
  clear hn hm
  cases b1 <;> cases b2 <;> cases b3 <;> cases b4
  case false.false.false.true => simp at hany
  all_goals
    go_enter Try.func10, Try.ntmps10
    go_wp2_with (first | (go_at_call 33; (with_reducible refine hA.mono ?_); rintro e w2 ⟨⟨A2, n2, c2, er, rfl, der⟩, hb2⟩; have hF2 := (hb2.block w.heap.size (Array.getElem?_eq_some_iff.1 hF0).1).trans hF0; have hc1 := cell_of_row _ w.heap.size 1 _ _ _ hF2; have hr2 := hr0.below hb2 (Nat.le_refl _); have hbx := bT hb0 hb2; clear hb2) | (go_at_call 15; (with_reducible refine (hBg _ hr2).mono ?_); rintro e w3 ⟨he, rfl⟩; rw [hbg] at he; subst he) | (go_at_call 26; (with_reducible refine (coded15_any _).mono ?_); rintro e w4 ⟨rfl, hb4⟩))
    go_ret
    exact ⟨rfl, bT hbx hb4⟩
set_option maxHeartbeats 8000000 in
set_option maxRecDepth 100000 in
theorem stripeKeys_ok (A : Option Addr) (c : Nat) (l : List Ky) (As : Option Addr) (cs m : Nat) (s : List Int) (ki fr til : Int) (sec : List Int) (B : Option Addr) (n ck : Nat) (w : World) (hm : s.length = m) (hn : sec.length = n) (hr : RdK w A l) (hlc : l.length ≤ c) (hc9 : c ≤ 9223372036854775807) (hcn : n ≤ ck) (hck : ck ≤ 9223372036854775807) (hs : RdI w .u8 B sec) (hsb : ∀ x ∈ sec, 0 ≤ x ∧ x < 256)
    (hrs : RdI w .u8 As s) (hmc : m ≤ cs) (hs9 : cs ≤ 9223372036854775807) (hbs : ∀ x ∈ s, 0 ≤ x ∧ x < 256) (hsl : m ≤ 140737488351232)
    (hbg : bigB l = false) (d2 : decide ((1000 : Int) < (m : Int)) = false) (d4 : addB l ⟨ki, sec, fr, til⟩ = true) :
    Calls Try.prog 10 #[.slice A l.length c, .slice As m cs, .agg #[.int .i64 ki, .slice B n ck, .int .i64 fr, .int .i64 til]] w fun e w' => e = .returned (.bool true) ∧ Below w.heap.size w w' := by
  unfold addB at d4
  simp only [Bool.and_eq_true, Bool.not_eq_true'] at d4
  obtain ⟨⟨hz, hz2⟩, ha⟩ := d4
  have hl : l.length ≤ 9223372036854775807 := by omega
  have hlen := ring_len hz
  have d3 : decide ((200 : Int) < (n : Int)) = false := by
    have h := hz2
    unfold rightB at h
    simp only [Bool.and_eq_true, decide_eq_true_eq] at h
    rw [decide_eq_false_iff_not]; omega
  have hBg := fun W hW => big_any A c l W hW hl
  have hr0 := hr.below (bel1 w (.cells #[.int .i64 ki, .slice B n ck, .int .i64 fr, .int .i64 til] 28)) (Nat.le_refl _)
  have hF0 := heap_alloc_new w (.cells #[.int .i64 ki, .slice B n ck, .int .i64 fr, .int .i64 til] 28)
  have hb0 := bel1 w (.cells #[.int .i64 ki, .slice B n ck, .int .i64 fr, .int .i64 til] 28)
  have hs0 := hs.below hb0
  have hrs0 := hrs.below hb0
  have hA := ringAdd_yes A c l ki fr til sec B n ck hn (w.alloc (.cells #[.int .i64 ki, .slice B n ck, .int .i64 fr, .int .i64 til] 28)) hr0 hlc hc9 hcn hck hs0 hsb hz hz2 ha
  have hm1000 : m ≤ 1000 := by have := of_decide_eq_false d2; omega
  have hD := fun W h1 h2 => stDecode_any A c l As cs s W h1 hl h2 (by omega) hbs
  have hDp := fun A2 c2 p W h1 h2 h3 => stDecode_any A2 c2 (addL l p ⟨ki, sec, fr, til⟩) As cs s W h1 h2 h3 (by omega) hbs
  have HZ := Lib.hid (And.intro hz (And.intro hz2 ha))
  have HLE := Lib.hid hlen
  have HN := Lib.hid hn
  have HM := Lib.hid hm
  rw [hm] at hD hDp
  clear hz hz2 ha hn hm hlen hrs hr hs
  go_enter Try.func10, Try.ntmps10
  go_wp2_with (go_at_call 33; (with_reducible refine hA.mono ?_); rintro e w2 ⟨⟨p, A2, c2, hp, hlo, hhi, rfl, hrd⟩, hb2⟩; have hF2 := (hb2.block w.heap.size (Array.getElem?_eq_some_iff.1 hF0).1).trans hF0; have hc1 := cell_of_row _ w.heap.size 1 _ _ _ hF2)
  have hr2 := hr0.below hb2 (Nat.le_refl _)
  have hs2 := hrs0.below hb2
  have hbx := bT hb0 hb2
  obtain ⟨hz, hz2, ha⟩ := HZ.out
  have hadd := ring_add hz hz2 hp hlo hhi ha
  obtain ⟨k1, k2⟩ := st_keys s hz hadd ha
  have hl2 : (addL l p ⟨ki, sec, fr, til⟩).length = l.length + 1 := by
    unfold addL; rw [List.length_append, List.length_take, List.length_cons, List.length_drop]; omega
  have hDB := fun W h1 h3 => hDp A2 c2 p W h1 (by rw [hl2]; have := HLE.out; omega) h3
  rw [hl2] at hDB
  have hlA := decS_15 l s
  have hlB := decS_15 (addL l p ⟨ki, sec, fr, til⟩) s
  obtain ⟨ra, hra⟩ : ∃ ra, decS l s = ra := ⟨_, rfl⟩
  obtain ⟨rb, hrb⟩ : ∃ rb, decS (addL l p ⟨ki, sec, fr, til⟩) s = rb := ⟨_, rfl⟩
  rw [hra] at k1 k2 hD hlA
  rw [hrb] at k1 k2 hDB hlB
  obtain ⟨x0, x1, x2, x3, x4, x5, x6, x7, x8, x9, x10, x11, x12, x13, x14, hX⟩ := list15 ra.1 hlA
  obtain ⟨y0, y1, y2, y3, y4, y5, y6, y7, y8, y9, y10, y11, y12, y13, y14, hY⟩ := list15 rb.1 hlB
  obtain ⟨f, hf⟩ : ∃ f, ra.2 = f := ⟨_, rfl⟩
  obtain ⟨g, hg⟩ : ∃ g, rb.2 = g := ⟨_, rfl⟩
  have hDA : ∀ W, RdK W A l → RdI W .u8 As s → Calls Try.prog 29 #[.slice A l.length c, .slice As m cs] W fun e w' => e = .returned (.tuple #[.agg #[.int .i64 x0, .int .i64 x1, .int .i64 x2, .int .i64 x3, .int .i64 x4, .int .i64 x5, .int .i64 x6, .int .i64 x7, .int .i64 x8, .int .i64 x9, .int .i64 x10, .int .i64 x11, .int .i64 x12, .int .i64 x13, .int .i64 x14], .int .i64 f]) ∧ Below W.heap.size W w' := by
    intro W h1 h2
    refine (hD W h1 h2).mono ?_
    rintro e w' ⟨rfl, hb⟩
    rw [hX, hf]
    exact ⟨rfl, hb⟩
  have hDB : ∀ W, RdK W A2 (addL l p ⟨ki, sec, fr, til⟩) → RdI W .u8 As s → Calls Try.prog 29 #[.slice A2 (l.length + 1) c2, .slice As m cs] W fun e w' => e = .returned (.tuple #[.agg #[.int .i64 y0, .int .i64 y1, .int .i64 y2, .int .i64 y3, .int .i64 y4, .int .i64 y5, .int .i64 y6, .int .i64 y7, .int .i64 y8, .int .i64 y9, .int .i64 y10, .int .i64 y11, .int .i64 y12, .int .i64 y13, .int .i64 y14], .int .i64 g]) ∧ Below W.heap.size W w' := by
    intro W h1 h2
    refine (hDB W h1 h2).mono ?_
    rintro e w' ⟨rfl, hb⟩
    rw [hY, hg]
    exact ⟨rfl, hb⟩
  rw [hf] at k1 k2
  rw [hg, hY] at k1
  have k1' : f = 10 → g = 10 ∨ g = 11 ∨ (g = 0 ∧ y11 = ki) := k1
  have k2' : f ≠ 10 → g = f ∧ [y0, y1, y2, y3, y4, y5, y6, y7, y8, y9, y10, y11, y12, y13, y14] = [x0, x1, x2, x3, x4, x5, x6, x7, x8, x9, x10, x11, x12, x13, x14] := fun h => by
    have e := k2 h
    rw [e] at hg hY
    exact ⟨hg.symm.trans hf, hY.symm.trans hX⟩
  clear hz hz2 ha hadd k1 k2 hD hDp hlo hhi hl2 hlA hlB hra hrb hX hY hf hg hr0 hF0 hb0 hs0 hrs0 hA hb2 hp
  (with_reducible refine (hBg w2 hr2).mono ?_)
  rintro e w3 ⟨rfl, rfl⟩
  rw [hbg]
  by_cases hf : f = 10
  · rcases k1' hf with h | h | ⟨h, h2⟩
    · subst hf h
      clear k1' k2'
      go_wp2_with (first | (go_at_call 29; (with_reducible refine (hDA _ hr2 hs2).mono ?_); rintro e w5 ⟨rfl, hb5⟩; have C5 := bA hb5 (.cells #[.int .i64 x0, .int .i64 x1, .int .i64 x2, .int .i64 x3, .int .i64 x4, .int .i64 x5, .int .i64 x6, .int .i64 x7, .int .i64 x8, .int .i64 x9, .int .i64 x10, .int .i64 x11, .int .i64 x12, .int .i64 x13, .int .i64 x14] 36); have X5 := heap_alloc_new w5 (.cells #[.int .i64 x0, .int .i64 x1, .int .i64 x2, .int .i64 x3, .int .i64 x4, .int .i64 x5, .int .i64 x6, .int .i64 x7, .int .i64 x8, .int .i64 x9, .int .i64 x10, .int .i64 x11, .int .i64 x12, .int .i64 x13, .int .i64 x14] 36); have S5 := hs2.below C5; have R5 := hrd.below C5 (Nat.le_refl _); have P5 := (C5.block w.heap.size (Array.getElem?_eq_some_iff.1 hF2).1).trans hF2; have B5 := bT hbx C5; clear hb5 C5 hc1) | (go_at_call 29; (with_reducible refine (hDB _ R5 S5).mono ?_); rintro e w6 ⟨rfl, hb6⟩; have C6 := bA hb6 (.cells #[.int .i64 y0, .int .i64 y1, .int .i64 y2, .int .i64 y3, .int .i64 y4, .int .i64 y5, .int .i64 y6, .int .i64 y7, .int .i64 y8, .int .i64 y9, .int .i64 y10, .int .i64 y11, .int .i64 y12, .int .i64 y13, .int .i64 y14] 36); have Y6 := heap_alloc_new w6 (.cells #[.int .i64 y0, .int .i64 y1, .int .i64 y2, .int .i64 y3, .int .i64 y4, .int .i64 y5, .int .i64 y6, .int .i64 y7, .int .i64 y8, .int .i64 y9, .int .i64 y10, .int .i64 y11, .int .i64 y12, .int .i64 y13, .int .i64 y14] 36); have X6 := (C6.block w5.heap.size (Array.getElem?_eq_some_iff.1 X5).1).trans X5; have P6 := (C6.block w.heap.size (Array.getElem?_eq_some_iff.1 P5).1).trans P5; have B6 := bT B5 C6; clear hb6 C6) | (go_at_call 26; (with_reducible refine (coded15_any _).mono ?_); rintro e w7 ⟨rfl, hb7⟩; have P7 := (hb7.block w.heap.size (Array.getElem?_eq_some_iff.1 P6).1).trans P6; have X7 := (hb7.block w5.heap.size (Array.getElem?_eq_some_iff.1 X6).1).trans X6; have Y7 := (hb7.block w6.heap.size (Array.getElem?_eq_some_iff.1 Y6).1).trans Y6; have B7 := bT B6 hb7; have cx0 := cell_of_row _ w5.heap.size 0 _ _ _ X7; have cy0 := cell_of_row _ w6.heap.size 0 _ _ _ Y7; have cx1 := cell_of_row _ w5.heap.size 1 _ _ _ X7; have cy1 := cell_of_row _ w6.heap.size 1 _ _ _ Y7; have cx2 := cell_of_row _ w5.heap.size 2 _ _ _ X7; have cy2 := cell_of_row _ w6.heap.size 2 _ _ _ Y7; have cx3 := cell_of_row _ w5.heap.size 3 _ _ _ X7; have cy3 := cell_of_row _ w6.heap.size 3 _ _ _ Y7; have cx4 := cell_of_row _ w5.heap.size 4 _ _ _ X7; have cy4 := cell_of_row _ w6.heap.size 4 _ _ _ Y7; have cx5 := cell_of_row _ w5.heap.size 5 _ _ _ X7; have cy5 := cell_of_row _ w6.heap.size 5 _ _ _ Y7; have cx6 := cell_of_row _ w5.heap.size 6 _ _ _ X7; have cy6 := cell_of_row _ w6.heap.size 6 _ _ _ Y7; have cx7 := cell_of_row _ w5.heap.size 7 _ _ _ X7; have cy7 := cell_of_row _ w6.heap.size 7 _ _ _ Y7; have cx8 := cell_of_row _ w5.heap.size 8 _ _ _ X7; have cy8 := cell_of_row _ w6.heap.size 8 _ _ _ Y7; have cx9 := cell_of_row _ w5.heap.size 9 _ _ _ X7; have cy9 := cell_of_row _ w6.heap.size 9 _ _ _ Y7; have cx10 := cell_of_row _ w5.heap.size 10 _ _ _ X7; have cy10 := cell_of_row _ w6.heap.size 10 _ _ _ Y7; have cx11 := cell_of_row _ w5.heap.size 11 _ _ _ X7; have cy11 := cell_of_row _ w6.heap.size 11 _ _ _ Y7; have cx12 := cell_of_row _ w5.heap.size 12 _ _ _ X7; have cy12 := cell_of_row _ w6.heap.size 12 _ _ _ Y7; have cx13 := cell_of_row _ w5.heap.size 13 _ _ _ X7; have cy13 := cell_of_row _ w6.heap.size 13 _ _ _ Y7; have cx14 := cell_of_row _ w5.heap.size 14 _ _ _ X7; have cy14 := cell_of_row _ w6.heap.size 14 _ _ _ Y7; have ck0 := cell_of_row _ w.heap.size 0 _ _ _ P7; clear hb7))
      go_ret
      exact ⟨by simp, B7⟩
    · subst hf h
      clear k1' k2'
      go_wp2_with (first | (go_at_call 29; (with_reducible refine (hDA _ hr2 hs2).mono ?_); rintro e w5 ⟨rfl, hb5⟩; have C5 := bA hb5 (.cells #[.int .i64 x0, .int .i64 x1, .int .i64 x2, .int .i64 x3, .int .i64 x4, .int .i64 x5, .int .i64 x6, .int .i64 x7, .int .i64 x8, .int .i64 x9, .int .i64 x10, .int .i64 x11, .int .i64 x12, .int .i64 x13, .int .i64 x14] 36); have X5 := heap_alloc_new w5 (.cells #[.int .i64 x0, .int .i64 x1, .int .i64 x2, .int .i64 x3, .int .i64 x4, .int .i64 x5, .int .i64 x6, .int .i64 x7, .int .i64 x8, .int .i64 x9, .int .i64 x10, .int .i64 x11, .int .i64 x12, .int .i64 x13, .int .i64 x14] 36); have S5 := hs2.below C5; have R5 := hrd.below C5 (Nat.le_refl _); have P5 := (C5.block w.heap.size (Array.getElem?_eq_some_iff.1 hF2).1).trans hF2; have B5 := bT hbx C5; clear hb5 C5 hc1) | (go_at_call 29; (with_reducible refine (hDB _ R5 S5).mono ?_); rintro e w6 ⟨rfl, hb6⟩; have C6 := bA hb6 (.cells #[.int .i64 y0, .int .i64 y1, .int .i64 y2, .int .i64 y3, .int .i64 y4, .int .i64 y5, .int .i64 y6, .int .i64 y7, .int .i64 y8, .int .i64 y9, .int .i64 y10, .int .i64 y11, .int .i64 y12, .int .i64 y13, .int .i64 y14] 36); have Y6 := heap_alloc_new w6 (.cells #[.int .i64 y0, .int .i64 y1, .int .i64 y2, .int .i64 y3, .int .i64 y4, .int .i64 y5, .int .i64 y6, .int .i64 y7, .int .i64 y8, .int .i64 y9, .int .i64 y10, .int .i64 y11, .int .i64 y12, .int .i64 y13, .int .i64 y14] 36); have X6 := (C6.block w5.heap.size (Array.getElem?_eq_some_iff.1 X5).1).trans X5; have P6 := (C6.block w.heap.size (Array.getElem?_eq_some_iff.1 P5).1).trans P5; have B6 := bT B5 C6; clear hb6 C6) | (go_at_call 26; (with_reducible refine (coded15_any _).mono ?_); rintro e w7 ⟨rfl, hb7⟩; have P7 := (hb7.block w.heap.size (Array.getElem?_eq_some_iff.1 P6).1).trans P6; have X7 := (hb7.block w5.heap.size (Array.getElem?_eq_some_iff.1 X6).1).trans X6; have Y7 := (hb7.block w6.heap.size (Array.getElem?_eq_some_iff.1 Y6).1).trans Y6; have B7 := bT B6 hb7; have cx0 := cell_of_row _ w5.heap.size 0 _ _ _ X7; have cy0 := cell_of_row _ w6.heap.size 0 _ _ _ Y7; have cx1 := cell_of_row _ w5.heap.size 1 _ _ _ X7; have cy1 := cell_of_row _ w6.heap.size 1 _ _ _ Y7; have cx2 := cell_of_row _ w5.heap.size 2 _ _ _ X7; have cy2 := cell_of_row _ w6.heap.size 2 _ _ _ Y7; have cx3 := cell_of_row _ w5.heap.size 3 _ _ _ X7; have cy3 := cell_of_row _ w6.heap.size 3 _ _ _ Y7; have cx4 := cell_of_row _ w5.heap.size 4 _ _ _ X7; have cy4 := cell_of_row _ w6.heap.size 4 _ _ _ Y7; have cx5 := cell_of_row _ w5.heap.size 5 _ _ _ X7; have cy5 := cell_of_row _ w6.heap.size 5 _ _ _ Y7; have cx6 := cell_of_row _ w5.heap.size 6 _ _ _ X7; have cy6 := cell_of_row _ w6.heap.size 6 _ _ _ Y7; have cx7 := cell_of_row _ w5.heap.size 7 _ _ _ X7; have cy7 := cell_of_row _ w6.heap.size 7 _ _ _ Y7; have cx8 := cell_of_row _ w5.heap.size 8 _ _ _ X7; have cy8 := cell_of_row _ w6.heap.size 8 _ _ _ Y7; have cx9 := cell_of_row _ w5.heap.size 9 _ _ _ X7; have cy9 := cell_of_row _ w6.heap.size 9 _ _ _ Y7; have cx10 := cell_of_row _ w5.heap.size 10 _ _ _ X7; have cy10 := cell_of_row _ w6.heap.size 10 _ _ _ Y7; have cx11 := cell_of_row _ w5.heap.size 11 _ _ _ X7; have cy11 := cell_of_row _ w6.heap.size 11 _ _ _ Y7; have cx12 := cell_of_row _ w5.heap.size 12 _ _ _ X7; have cy12 := cell_of_row _ w6.heap.size 12 _ _ _ Y7; have cx13 := cell_of_row _ w5.heap.size 13 _ _ _ X7; have cy13 := cell_of_row _ w6.heap.size 13 _ _ _ Y7; have cx14 := cell_of_row _ w5.heap.size 14 _ _ _ X7; have cy14 := cell_of_row _ w6.heap.size 14 _ _ _ Y7; have ck0 := cell_of_row _ w.heap.size 0 _ _ _ P7; clear hb7))
      go_ret
      exact ⟨by simp, B7⟩
    · subst hf h h2
      clear k1' k2'
      go_wp2_with (first | (go_at_call 29; (with_reducible refine (hDA _ hr2 hs2).mono ?_); rintro e w5 ⟨rfl, hb5⟩; have C5 := bA hb5 (.cells #[.int .i64 x0, .int .i64 x1, .int .i64 x2, .int .i64 x3, .int .i64 x4, .int .i64 x5, .int .i64 x6, .int .i64 x7, .int .i64 x8, .int .i64 x9, .int .i64 x10, .int .i64 x11, .int .i64 x12, .int .i64 x13, .int .i64 x14] 36); have X5 := heap_alloc_new w5 (.cells #[.int .i64 x0, .int .i64 x1, .int .i64 x2, .int .i64 x3, .int .i64 x4, .int .i64 x5, .int .i64 x6, .int .i64 x7, .int .i64 x8, .int .i64 x9, .int .i64 x10, .int .i64 x11, .int .i64 x12, .int .i64 x13, .int .i64 x14] 36); have S5 := hs2.below C5; have R5 := hrd.below C5 (Nat.le_refl _); have P5 := (C5.block w.heap.size (Array.getElem?_eq_some_iff.1 hF2).1).trans hF2; have B5 := bT hbx C5; clear hb5 C5 hc1) | (go_at_call 29; (with_reducible refine (hDB _ R5 S5).mono ?_); rintro e w6 ⟨rfl, hb6⟩; have C6 := bA hb6 (.cells #[.int .i64 y0, .int .i64 y1, .int .i64 y2, .int .i64 y3, .int .i64 y4, .int .i64 y5, .int .i64 y6, .int .i64 y7, .int .i64 y8, .int .i64 y9, .int .i64 y10, .int .i64 y11, .int .i64 y12, .int .i64 y13, .int .i64 y14] 36); have Y6 := heap_alloc_new w6 (.cells #[.int .i64 y0, .int .i64 y1, .int .i64 y2, .int .i64 y3, .int .i64 y4, .int .i64 y5, .int .i64 y6, .int .i64 y7, .int .i64 y8, .int .i64 y9, .int .i64 y10, .int .i64 y11, .int .i64 y12, .int .i64 y13, .int .i64 y14] 36); have X6 := (C6.block w5.heap.size (Array.getElem?_eq_some_iff.1 X5).1).trans X5; have P6 := (C6.block w.heap.size (Array.getElem?_eq_some_iff.1 P5).1).trans P5; have B6 := bT B5 C6; clear hb6 C6) | (go_at_call 26; (with_reducible refine (coded15_any _).mono ?_); rintro e w7 ⟨rfl, hb7⟩; have P7 := (hb7.block w.heap.size (Array.getElem?_eq_some_iff.1 P6).1).trans P6; have X7 := (hb7.block w5.heap.size (Array.getElem?_eq_some_iff.1 X6).1).trans X6; have Y7 := (hb7.block w6.heap.size (Array.getElem?_eq_some_iff.1 Y6).1).trans Y6; have B7 := bT B6 hb7; have cx0 := cell_of_row _ w5.heap.size 0 _ _ _ X7; have cy0 := cell_of_row _ w6.heap.size 0 _ _ _ Y7; have cx1 := cell_of_row _ w5.heap.size 1 _ _ _ X7; have cy1 := cell_of_row _ w6.heap.size 1 _ _ _ Y7; have cx2 := cell_of_row _ w5.heap.size 2 _ _ _ X7; have cy2 := cell_of_row _ w6.heap.size 2 _ _ _ Y7; have cx3 := cell_of_row _ w5.heap.size 3 _ _ _ X7; have cy3 := cell_of_row _ w6.heap.size 3 _ _ _ Y7; have cx4 := cell_of_row _ w5.heap.size 4 _ _ _ X7; have cy4 := cell_of_row _ w6.heap.size 4 _ _ _ Y7; have cx5 := cell_of_row _ w5.heap.size 5 _ _ _ X7; have cy5 := cell_of_row _ w6.heap.size 5 _ _ _ Y7; have cx6 := cell_of_row _ w5.heap.size 6 _ _ _ X7; have cy6 := cell_of_row _ w6.heap.size 6 _ _ _ Y7; have cx7 := cell_of_row _ w5.heap.size 7 _ _ _ X7; have cy7 := cell_of_row _ w6.heap.size 7 _ _ _ Y7; have cx8 := cell_of_row _ w5.heap.size 8 _ _ _ X7; have cy8 := cell_of_row _ w6.heap.size 8 _ _ _ Y7; have cx9 := cell_of_row _ w5.heap.size 9 _ _ _ X7; have cy9 := cell_of_row _ w6.heap.size 9 _ _ _ Y7; have cx10 := cell_of_row _ w5.heap.size 10 _ _ _ X7; have cy10 := cell_of_row _ w6.heap.size 10 _ _ _ Y7; have cx11 := cell_of_row _ w5.heap.size 11 _ _ _ X7; have cy11 := cell_of_row _ w6.heap.size 11 _ _ _ Y7; have cx12 := cell_of_row _ w5.heap.size 12 _ _ _ X7; have cy12 := cell_of_row _ w6.heap.size 12 _ _ _ Y7; have cx13 := cell_of_row _ w5.heap.size 13 _ _ _ X7; have cy13 := cell_of_row _ w6.heap.size 13 _ _ _ Y7; have cx14 := cell_of_row _ w5.heap.size 14 _ _ _ X7; have cy14 := cell_of_row _ w6.heap.size 14 _ _ _ Y7; have ck0 := cell_of_row _ w.heap.size 0 _ _ _ P7; clear hb7))
      go_ret
      exact ⟨by simp, B7⟩
  · obtain ⟨rfl, h⟩ := k2' hf
    simp only [List.cons.injEq, and_true] at h
    obtain ⟨rfl, rfl, rfl, rfl, rfl, rfl, rfl, rfl, rfl, rfl, rfl, rfl, rfl, rfl, rfl⟩ := h
    clear k1' k2'
    go_wp2_with (first | (go_at_call 29; (with_reducible refine (hDA _ hr2 hs2).mono ?_); rintro e w5 ⟨rfl, hb5⟩; have C5 := bA hb5 (.cells #[.int .i64 y0, .int .i64 y1, .int .i64 y2, .int .i64 y3, .int .i64 y4, .int .i64 y5, .int .i64 y6, .int .i64 y7, .int .i64 y8, .int .i64 y9, .int .i64 y10, .int .i64 y11, .int .i64 y12, .int .i64 y13, .int .i64 y14] 36); have X5 := heap_alloc_new w5 (.cells #[.int .i64 y0, .int .i64 y1, .int .i64 y2, .int .i64 y3, .int .i64 y4, .int .i64 y5, .int .i64 y6, .int .i64 y7, .int .i64 y8, .int .i64 y9, .int .i64 y10, .int .i64 y11, .int .i64 y12, .int .i64 y13, .int .i64 y14] 36); have S5 := hs2.below C5; have R5 := hrd.below C5 (Nat.le_refl _); have P5 := (C5.block w.heap.size (Array.getElem?_eq_some_iff.1 hF2).1).trans hF2; have B5 := bT hbx C5; clear hb5 C5 hc1) | (go_at_call 29; (with_reducible refine (hDB _ R5 S5).mono ?_); rintro e w6 ⟨rfl, hb6⟩; have C6 := bA hb6 (.cells #[.int .i64 y0, .int .i64 y1, .int .i64 y2, .int .i64 y3, .int .i64 y4, .int .i64 y5, .int .i64 y6, .int .i64 y7, .int .i64 y8, .int .i64 y9, .int .i64 y10, .int .i64 y11, .int .i64 y12, .int .i64 y13, .int .i64 y14] 36); have Y6 := heap_alloc_new w6 (.cells #[.int .i64 y0, .int .i64 y1, .int .i64 y2, .int .i64 y3, .int .i64 y4, .int .i64 y5, .int .i64 y6, .int .i64 y7, .int .i64 y8, .int .i64 y9, .int .i64 y10, .int .i64 y11, .int .i64 y12, .int .i64 y13, .int .i64 y14] 36); have X6 := (C6.block w5.heap.size (Array.getElem?_eq_some_iff.1 X5).1).trans X5; have P6 := (C6.block w.heap.size (Array.getElem?_eq_some_iff.1 P5).1).trans P5; have B6 := bT B5 C6; clear hb6 C6) | (go_at_call 26; (with_reducible refine (coded15_any _).mono ?_); rintro e w7 ⟨rfl, hb7⟩; have P7 := (hb7.block w.heap.size (Array.getElem?_eq_some_iff.1 P6).1).trans P6; have X7 := (hb7.block w5.heap.size (Array.getElem?_eq_some_iff.1 X6).1).trans X6; have Y7 := (hb7.block w6.heap.size (Array.getElem?_eq_some_iff.1 Y6).1).trans Y6; have B7 := bT B6 hb7; have cx0 := cell_of_row _ w5.heap.size 0 _ _ _ X7; have cy0 := cell_of_row _ w6.heap.size 0 _ _ _ Y7; have cx1 := cell_of_row _ w5.heap.size 1 _ _ _ X7; have cy1 := cell_of_row _ w6.heap.size 1 _ _ _ Y7; have cx2 := cell_of_row _ w5.heap.size 2 _ _ _ X7; have cy2 := cell_of_row _ w6.heap.size 2 _ _ _ Y7; have cx3 := cell_of_row _ w5.heap.size 3 _ _ _ X7; have cy3 := cell_of_row _ w6.heap.size 3 _ _ _ Y7; have cx4 := cell_of_row _ w5.heap.size 4 _ _ _ X7; have cy4 := cell_of_row _ w6.heap.size 4 _ _ _ Y7; have cx5 := cell_of_row _ w5.heap.size 5 _ _ _ X7; have cy5 := cell_of_row _ w6.heap.size 5 _ _ _ Y7; have cx6 := cell_of_row _ w5.heap.size 6 _ _ _ X7; have cy6 := cell_of_row _ w6.heap.size 6 _ _ _ Y7; have cx7 := cell_of_row _ w5.heap.size 7 _ _ _ X7; have cy7 := cell_of_row _ w6.heap.size 7 _ _ _ Y7; have cx8 := cell_of_row _ w5.heap.size 8 _ _ _ X7; have cy8 := cell_of_row _ w6.heap.size 8 _ _ _ Y7; have cx9 := cell_of_row _ w5.heap.size 9 _ _ _ X7; have cy9 := cell_of_row _ w6.heap.size 9 _ _ _ Y7; have cx10 := cell_of_row _ w5.heap.size 10 _ _ _ X7; have cy10 := cell_of_row _ w6.heap.size 10 _ _ _ Y7; have cx11 := cell_of_row _ w5.heap.size 11 _ _ _ X7; have cy11 := cell_of_row _ w6.heap.size 11 _ _ _ Y7; have cx12 := cell_of_row _ w5.heap.size 12 _ _ _ X7; have cy12 := cell_of_row _ w6.heap.size 12 _ _ _ Y7; have cx13 := cell_of_row _ w5.heap.size 13 _ _ _ X7; have cy13 := cell_of_row _ w6.heap.size 13 _ _ _ Y7; have cx14 := cell_of_row _ w5.heap.size 14 _ _ _ X7; have cy14 := cell_of_row _ w6.heap.size 14 _ _ _ Y7; have ck0 := cell_of_row _ w.heap.size 0 _ _ _ P7; clear hb7))
    go_ret
    exact ⟨by simp, B7⟩
theorem stripeKeys_any (A : Option Addr) (c : Nat) (l : List Ky) (As : Option Addr) (cs : Nat) (s : List Int) (ki fr til : Int) (B : Option Addr) (ck : Nat) (sec : List Int) (w : World) (hr : RdK w A l) (hlc : l.length ≤ c) (hc9 : c ≤ 9223372036854775807) (hcn : sec.length ≤ ck) (hck : ck ≤ 9223372036854775807) (hs : RdI w .u8 B sec) (hsb : ∀ x ∈ sec, 0 ≤ x ∧ x < 256)
    (hrs : RdI w .u8 As s) (hmc : s.length ≤ cs) (hs9 : cs ≤ 9223372036854775807) (hbs : ∀ x ∈ s, 0 ≤ x ∧ x < 256) (hsl : s.length ≤ 140737488351232) :
    Calls Try.prog 10 #[.slice A l.length c, .slice As s.length cs, .agg #[.int .i64 ki, .slice B sec.length ck, .int .i64 fr, .int .i64 til]] w fun e w' => e = .returned (.bool true) ∧ Below w.heap.size w w' := by
  by_cases h : bigB l = true ∨ decide ((1000 : Int) < (s.length : Int)) = true ∨ decide ((200 : Int) < (sec.length : Int)) = true ∨ addB l ⟨ki, sec, fr, til⟩ = false
  · exact stripeKeys_bad A c l As cs s.length s ki fr til sec B sec.length ck w rfl rfl hr hlc hc9 hcn hck hs hsb _ _ _ _ rfl rfl rfl rfl h
  · exact stripeKeys_ok A c l As cs s.length s ki fr til sec B sec.length ck w rfl rfl hr hlc hc9 hcn hck hs hsb hrs hmc hs9 hbs hsl (by cases hb : bigB l <;> simp_all) (by cases hd : decide ((1000 : Int) < (s.length : Int)) <;> simp_all) (by cases hd : addB l ⟨ki, sec, fr, til⟩ <;> simp_all)
end Go.Proofs.Ytnbghgenaolfgaa

namespace Go.Proofs.Ytnbghgenaolfgaa.stripeKeys
open Go.ChangeShapes Go.WideShapes Go.ChangeAt Go.RowKit
open Go.ChangeMaps (open_string shut_string)
set_option linter.unusedVariables false
set_option maxRecDepth 100000
theorem own : ownKnob Try.prog.godebug = none := by kernel_rfl
theorem laidOut : laidOutB Try.prog = true := by kernel_rfl
set_option maxRecDepth 100000 in
theorem lifted (os : Os) (started : os.Started) (H : Type) (enc : TypeId × Value → H) :
    ReturnsInHanded {} Try.checked os 10 .any (Rows.stripeKeysSpec.pre6 enc Try.prog Try.f10 Rows.stripeKeysRow.domain false) (Rows.stripeKeysSpec.post enc Try.prog Try.f10 false true false false) := by
  refine returnsInHanded_of_change_sized (C := Try.checked) own started (by kernel_rfl) Try.func10
    (ChangeSpec.witness6 (enc := enc) (C := Try.checked) false ⟨#[], #[.slice none 0 0, .slice none 0 0, .agg #[.int .i64 0, .slice none 0 0, .int .i64 0, .int .i64 0]], []⟩ 8 (by kernel_rfl) (by kernel_rfl) (by kernel_rfl) (by kernel_rfl)) ?_
  intro W base args ds gs before hval0 hW hcnd hsz0 _
  have hsz : (DataW.weightsEach Try.prog (Try.f10.params.toList ++ Rows.stripeKeysSpec.plain.varTypes Try.prog) (ds ++ gs)).all (· ≤ reachBytes) = true := hsz0
  have hval : ∀ (j : Nat) t v, Try.f10.params[j]? = some t → args[j]? = some v → Value.okWide Try.prog W .any base t v := hval0
  have hW' := hW
  obtain ⟨p, q, hA0, hV, rfl, hfz, hnd⟩ := hW
  have hA : DataW.TrodAll enc Try.prog W 0 (fun _ => true) true Try.f10.params.toList args.toList ds p := hA0
  rw [Try.params10] at hA hval hsz
  obtain ⟨v0, vs0, d0, ds0, p0, q0, hargs, rfl, rfl, h0, r0⟩ := trodAll_cons hA
  obtain ⟨v1, vs1, d1, ds1, p1, q1, rfl, rfl, rfl, h1, r1⟩ := trodAll_cons r0
  obtain ⟨v2, vs2, d2, ds2, p2, q2, rfl, rfl, rfl, h2, r2⟩ := trodAll_cons r1
  obtain ⟨rfl, rfl, rfl⟩ := trodAll_nil r2
  obtain rfl : args = #[v0, v1, v2] := by cases args; simp_all
  obtain ⟨rfl, rfl⟩ := trodVars_none hV
  obtain ⟨A0, len0, cap0, rfl⟩ := okWide_slice Try.underlying31 (hval 0 31 v0 rfl rfl)
  have k0 := h0
  have lt0 : ∀ x ∈ p0, x.block < W.heap.size := by obtain ⟨m, hm⟩ := k0; exact DataW.trod_lt m _ _ _ hm
  obtain ⟨ks0, rfl, hr0, hl0⟩ : ∃ ks : List Ky, len0 = ks.length ∧ RdK W A0 ks ∧ ks.length ≤ 9223372036854775807 := by
    obtain ⟨fuel, hf⟩ := h0
    exact keys_open hf
  obtain ⟨hq0, hm0⟩ : ks0.length ≤ cap0 ∧ cap0 ≤ 9223372036854775807 := by
    obtain ⟨fuel, hf⟩ := h0
    exact keys_caps hf
  obtain ⟨a1, len1, cap1, rfl⟩ := okWide_slice Try.underlying26 (hval 1 26 v1 rfl rfl)
  have k1 := h1
  have lt1 : ∀ x ∈ p1, x.block < W.heap.size := by obtain ⟨m, hm⟩ := k1; exact DataW.trod_lt m _ _ _ hm
  obtain ⟨z1, w1⟩ : ∃ zs, IsRow .u8 W a1 len1 cap1 zs := by
    obtain ⟨fuel, hf⟩ := h1
    rcases open_ints Try.underlying26 Try.underlying5 (by kernel_rfl) hf with ⟨hcs, _⟩ | ⟨x, l, c, zs, hcs, _, hl, hm, hz, _, hcell, hwz⟩
    · simp [Value.cells] at hcs
      obtain ⟨rfl, rfl, rfl⟩ := hcs
      exact ⟨[], .inl ⟨rfl, rfl, rfl, rfl⟩⟩
    · simp [Value.cells] at hcs
      obtain ⟨rfl, rfl, rfl⟩ := hcs
      exact ⟨zs, .inr ⟨_, rfl, hl, hm, by simpa using hz, hcell, hwz⟩⟩
  have hs1 : len1 ≤ 140737488351232 := by
    obtain ⟨fuel, hf⟩ := k1
    exact ints_sized Try.underlying26 Try.underlying5 (by kernel_rfl) (by kernel_rfl) hf hsz (j := 1) rfl rfl
  obtain ⟨hq1, hm1⟩ := row_caps w1
  obtain ⟨b1, rfl, hr1, hl1, hw1⟩ := rd_of_row w1
  have k2 := h2
  have lt2 : ∀ x ∈ p2, x.block < W.heap.size := by obtain ⟨m, hm⟩ := k2; exact DataW.trod_lt m _ _ _ hm
  obtain ⟨cs2, rfl, hc2⟩ := okWide_struct Try.underlying28 (hval 2 28 v2 rfl rfl)
  obtain ⟨l2⟩ := cs2
  obtain ⟨fu2, hf2⟩ := h2
  have L2 := open_leaves 6 28 (by kernel_rfl) fu2 _ _ (by simpa [Value.cells] using hc2) hf2
  rw [show leavesOf Try.prog 6 28 = [3, 26, 3, 3] from by kernel_rfl] at L2
  simp only [Value.cells] at L2
  obtain ⟨c2_0, m2_0, rfl, g2_0, L2⟩ := Lv_cons L2
  obtain ⟨c2_1, m2_1, rfl, g2_1, L2⟩ := Lv_cons L2
  obtain ⟨c2_2, m2_2, rfl, g2_2, L2⟩ := Lv_cons L2
  obtain ⟨c2_3, m2_3, rfl, g2_3, L2⟩ := Lv_cons L2
  obtain rfl := Lv_nil L2
  obtain ⟨a2_0, rfl, w2_0⟩ := leaf_int Try.underlying3 g2_0
  obtain ⟨A2_1, len2_1, cap2_1, zs2_1, rfl, w2_1⟩ := leaf_row Try.underlying26 Try.underlying5 (by kernel_rfl) g2_1
  obtain ⟨hq2_1, hm2_1⟩ := row_caps w2_1
  obtain ⟨b2_1, rfl, hr2_1, hl2_1, hw2_1⟩ := rd_of_row w2_1
  obtain ⟨a2_2, rfl, w2_2⟩ := leaf_int Try.underlying3 g2_2
  obtain ⟨a2_3, rfl, w2_3⟩ := leaf_int Try.underlying3 g2_3
  clear hA0 hval0 hsz0 hsz
  refine (stripeKeys_any A0 cap0 ks0 a1 cap1 b1 a2_0 a2_2 a2_3 A2_1 cap2_1 b2_1 W hr0 hq0 hm0 hq2_1 hm2_1 hr2_1 (wfu8 hw2_1) hr1 hq1 hm1 (wfu8 hw1) hs1).mono fun e W' ⟨he, bel⟩ => ?_
  subst he
  exact ⟨_, rfl, _, _, _, [], _, [], hW', trodAll_mk1 (shut_bool Try.underlying4 _), (trodAll_cons_mk (Below.trod laidOut (by kernel_rfl) (of_decide_eq_true (by kernel_rfl)) k0 bel lt0) (trodAll_cons_mk (Below.trod laidOut (by kernel_rfl) (of_decide_eq_true (by kernel_rfl)) k1 bel lt1) (trodAll_cons_mk (Below.trod laidOut (by kernel_rfl) (of_decide_eq_true (by kernel_rfl)) k2 bel lt2) trodAll_mk0))), rfl, bel.frame _, fun h => by cases h⟩
theorem over : Rows.stripeKeysRow.holds Try.pinned (OpenSpec.ofChange Rows.stripeKeysSpec) :=
  OpenClaim.holds_of_wide 10 Try.f10 rfl rfl rfl rfl rfl rfl rfl ⟨rfl, rfl, rfl, rfl, rfl⟩ rfl rfl rfl rfl rfl (by kernel_rfl) Try.func10 (by kernel_rfl)
    (of_decide_eq_true (by kernel_rfl)) (by unfold Func.isWrapper; first | (rw [if_pos (by decide +kernel)]; kernel_rfl) | (rw [if_neg (by decide +kernel)]; exact ⟨rfl, rfl⟩))
    (fun os started H enc _ => lifted os started H enc)
theorem proved : Rows.StripeKeysSaid := over
#print axioms proved
end Go.Proofs.Ytnbghgenaolfgaa.stripeKeys
namespace Go.Proofs.Ytnbghgenaolfgaa
theorem stripeKeys_holds : Rows.StripeKeysSaid := stripeKeys.proved
end Go.Proofs.Ytnbghgenaolfgaa


/- Layer 17: a row of fields of the call's own, and what is appended to it. No condition. -/
import Derived.Test.YtachkhjbckapoaaB18
namespace Go.Proofs.Ytachkhjbckapoaa
open Go.RowKit
set_option linter.unusedVariables false
set_option maxRecDepth 100000
set_option linter.unusedSimpArgs false

/-- A field, and the slice of its bytes. -/
structure Fv where
  f : Fd
  B : Option Addr
  c : Nat
def fvCells (l : List Fv) : List Value := l.flatMap fun x => [.int .i64 x.f.tag, .slice x.B x.f.val.length x.c]
theorem fvCells_nil : fvCells [] = [] := rfl
theorem fvCells_cons (x : Fv) (l : List Fv) : fvCells (x :: l) = .int .i64 x.f.tag :: .slice x.B x.f.val.length x.c :: fvCells l := rfl
theorem fvCells_snoc (l : List Fv) (x : Fv) : fvCells (l ++ [x]) = fvCells l ++ [.int .i64 x.f.tag, .slice x.B x.f.val.length x.c] := by simp [fvCells]
theorem fvCells_at : ∀ (l : List Fv) (j : Nat) (h : j < l.length), (fvCells l)[2 * j]? = some (.int .i64 l[j].f.tag) ∧ (fvCells l)[2 * j + 1]? = some (.slice l[j].B l[j].f.val.length l[j].c)
  | x :: l, 0, h => ⟨rfl, rfl⟩
  | x :: l, j + 1, h => by
    have ih := fvCells_at l j (by simpa using h)
    rw [fvCells_cons, show 2 * (j + 1) = 2 * j + 1 + 1 by omega, show 2 * j + 1 + 1 + 1 = (2 * j + 1) + 1 + 1 by omega, List.getElem?_cons_succ, List.getElem?_cons_succ, List.getElem?_cons_succ, List.getElem?_cons_succ]
    exact ih
def FvOk (base : Nat) (w : World) (own : Option Nat) (x : Fv) : Prop :=
  x.f.val.length ≤ x.c ∧ x.c ≤ 9223372036854775807 ∧ RdI w .u8 x.B x.f.val ∧ (∀ b ∈ x.f.val, 0 ≤ b ∧ b < 256) ∧ (x.f.val = [] ∨ ∀ a, x.B = some a → base ≤ a.block ∧ some a.block ≠ own)
/-- A row of the call's own that holds these fields. -/
def OwnF (base : Nat) (w : World) (v : Value) (L : List Fv) : Prop :=
  w.ownsRow base 67 2 v L.length (fvCells L) ∧ ∀ x ∈ L, FvOk base w v.ownBlock x
theorem OwnF.nil (base : Nat) (w : World) : OwnF base w (.slice none 0 0) [] := ⟨World.ownsRow_nil _ _ _ _, by simp⟩
theorem OwnF.below {base : Nat} {w w' : World} {v : Value} {L : List Fv} (h : OwnF base w v L) (hb : Below w.heap.size w w') : OwnF base w' v L :=
  ⟨own_below h.1 hb, fun x hx => by obtain ⟨h1, h2, h3, h4, h5⟩ := h.2 x hx; exact ⟨h1, h2, h3.below hb, h4, h5⟩⟩
theorem OwnF.mono {base base' : Nat} {w : World} {v : Value} {L : List Fv} (h : OwnF base w v L) (hb : base' ≤ base) : OwnF base' w v L :=
  ⟨own_base h.1 hb, fun x hx => by
    obtain ⟨h1, h2, h3, h4, h5⟩ := h.2 x hx
    exact ⟨h1, h2, h3, h4, h5.imp id fun h a ha => ⟨Nat.le_trans hb (h a ha).1, (h a ha).2⟩⟩⟩
theorem OwnF.app {base : Nat} {w w' : World} {v v' : Value} {L : List Fv} {x : Fv} (h : OwnF base w v L) (hx : FvOk base w v.ownBlock x)
    (ho : w'.ownsRow base 67 2 v' (L.length + 1) (fvCells L ++ [.int .i64 x.f.tag, .slice x.B x.f.val.length x.c])) (hg : w.grownBy w' v.ownBlock) (ha : v'.ownBlock = v.ownBlock ∨ v'.ownBlock = some w.heap.size) : OwnF base w' v' (L ++ [x]) := by
  refine ⟨by rw [fvCells_snoc, List.length_append]; exact ho, ?_⟩
  have K : ∀ y, FvOk base w v.ownBlock y → FvOk base w' v'.ownBlock y := by
    rintro y ⟨h1, h2, h3, h4, h5⟩
    refine ⟨h1, h2, ?_, h4, ?_⟩
    · rcases h3 with h3 | ⟨ad, e, hlt, hc⟩
      · exact .inl h3
      · rcases h5 with h5 | h5
        · exact .inl h5
        · have hne := (h5 ad e).2
          have hs : ad.block < w'.heap.size := by
            have hbk := hg.block ad.block hlt hne
            rcases Nat.lt_or_ge ad.block w'.heap.size with h | h
            · exact h
            · rw [Array.getElem?_eq_none h, Array.getElem?_eq_getElem hlt] at hbk
              cases hbk
          exact .inr ⟨ad, e, hs, fun j hj => (World.cell?_of_block (hg.block (ad.add j).block (by rw [add_block]; exact hlt) (by rw [add_block]; exact hne))).trans (hc j hj)⟩
    · rcases h5 with h5 | h5
      · exact .inl h5
      · rcases h3 with h3 | ⟨ad, e, hlt, hc⟩
        · exact .inl h3
        · refine .inr fun a hae => ?_
          obtain rfl : ad = a := by rw [e] at hae; exact Option.some.inj hae
          refine ⟨(h5 ad e).1, ?_⟩
          rcases ha with ha | ha
          · rw [ha]; exact (h5 ad e).2
          · rw [ha]; intro h; injection h with h; omega
  intro y hy
  rcases List.mem_append.1 hy with hy | hy
  · exact K y (h.2 y hy)
  · obtain rfl := List.mem_singleton.1 hy
    exact K _ hx
theorem OwnF.rdF {base : Nat} {w : World} {v : Value} {L : List Fv} (h : OwnF base w v L) : ∃ A c, v = .slice A L.length c ∧ L.length ≤ c ∧ c ≤ 9223372036854775807 ∧ RdF w A (L.map (·.f)) := by
  rcases h.1.2 with ⟨rfl, h0⟩ | ⟨g, cap, cur, rfl, _, hh, h1, h2, _⟩
  · obtain rfl := List.eq_nil_of_length_eq_zero h0
    exact ⟨none, 0, rfl, Nat.le_refl _, by omega, .inl rfl⟩
  · refine ⟨some ⟨g, 0, none⟩, cap, rfl, h1, by unfold maxLen at h2; omega, .inr ⟨_, rfl, (h.1.lt g rfl).2, fun j hj => ?_⟩⟩
    rw [List.length_map] at hj
    obtain ⟨e0, e1⟩ := fvCells_at L j hj
    have c0 := h.1.cells rfl _ _ e0
    have c1 := h.1.cells rfl _ _ e1
    obtain ⟨k1, k2, k3, k4, k5⟩ := h.2 _ (List.getElem_mem hj)
    rw [List.getElem_map]
    have ea : ∀ i, (⟨g, 0, none⟩ : Addr).add i = ⟨g, i, none⟩ := by intro i; unfold Addr.add; by_cases hi : i = 0 <;> simp [hi]
    rw [ea] at c0 c1
    rw [ea, Nat.mul_comm j 2]
    exact ⟨L[j].B, L[j].c, c0, c1, k1, k2, k3, k4⟩
/-- append(v, x...) at one operation of a region. -/
theorem wpO_app_own {P : Program} {w : World} {o : Oper} {a : Act} {Q : Exit → Act → World → Prop} {K : Act → World → Prop} (s x : Operand) (t : TypeId)
    (ho : o.op = .call { callee := .builtin .append, args := #[s, x], argTypes := #[t, t] })
    (base : Nat) (e : TypeId) (i : TypeInfo) (z : Value) (size bytes : Nat) (ht : P.underlying t = some (.slice e)) (hi : P.info? e = some i) (hz : i.zero = some z)
    (hsize : i.size = size) (hby : i.bytes = bytes) (hzs : z.cells.size = size) (hsz : 0 < size)
    (v : Value) (n : Nat) (xs : List Value) (hs : a.eval s = v) (hown : w.ownsRow base e size v n xs)
    (ad : Addr) (m c : Nat) (news : List Value) (hx : a.eval x = .slice (some ad) m c) (hl : news.length = m * size) (hnews : ∀ j u, news[j]? = some u → w.cell? (ad.add j) = some u) (h1 : ∀ u ∈ news, u.oneCell' = true)
    (h63 : n + m ≤ maxLen) (hbytes : (n + m) * bytes ≤ 140737488355328) (hbase : base ≤ w.heap.size)
    (h : ∀ v' w', w'.ownsRow base e size v' (n + m) (xs ++ news) → w.grownBy w' v.ownBlock → (v'.ownBlock = v.ownBlock ∨ v'.ownBlock = some w.heap.size) → K (a.put o.dst v') w') :
    o.wp P a w K Q := by
  obtain ⟨v', w', hr, h2, h3, h4, h5⟩ := run_append_own_at (P := P) w base t o.type e i z size bytes ht hi hz hsize hby hzs hsz v n xs hown ad m c news hl hnews h1 h63 hbytes hbase
  unfold Oper.wp execOp
  simp only [ho, resolve, invoke, builtin, Sem.run_bind, Sem.run_pure, Result.andThen_ok, List.map_toArray, List.map_cons, List.map_nil, hs, hx, hr]
  exact h v' w' h2 h3 h5
theorem OwnF.set {base g : Nat} {w : World} {v u : Value} {L : List Fv} (h : OwnF base w v L) (hg : g < base) : OwnF base (w.setCell ⟨g, 0, none⟩ u) v L := by
  have hb : Below base w (w.setCell ⟨g, 0, none⟩ u) → True := fun _ => trivial
  have hs : (w.setCell ⟨g, 0, none⟩ u).heap.size = w.heap.size := by simp
  have K : ∀ b, base ≤ b → (w.setCell ⟨g, 0, none⟩ u).heap[b]? = w.heap[b]? := fun b hb => Below.heap_setCell w _ u b (by show b ≠ g; omega)
  obtain ⟨⟨h1, h2⟩, h3⟩ := h
  refine ⟨⟨h1, h2.imp id fun ⟨k, cap, cur, e1, e2, e3, e4⟩ => ⟨k, cap, cur, e1, e2, (K k e2).trans e3, e4⟩⟩, fun x hx => ?_⟩
  obtain ⟨k1, k2, k3, k4, k5⟩ := h3 x hx
  refine ⟨k1, k2, ?_, k4, k5⟩
  rcases k3 with k3 | ⟨ad, e, hlt, hc⟩
  · exact .inl k3
  · rcases k5 with k5 | k5
    · exact .inl k5
    · exact .inr ⟨ad, e, by rw [hs]; exact hlt, fun j hj => (World.cell?_of_block (K (ad.add j).block (by rw [add_block]; exact (k5 ad e).1))).trans (hc j hj)⟩
theorem fcells_new (w : World) (l : List Value) (t : TypeId) : ∀ j u, l[j]? = some u → (w.alloc (.cells l.toArray t)).cell? ((⟨w.heap.size, 0, none⟩ : Addr).add j) = some u := by
  intro j u hj
  have e : (⟨w.heap.size, 0, none⟩ : Addr).add j = ⟨w.heap.size, j, none⟩ := by
    unfold Addr.add; by_cases h : j = 0 <;> simp [h]
  rw [e, cell_of_row _ w.heap.size j _ t (0, 0) (heap_alloc_new w _)]
  simpa using hj
theorem infoFd : (Try.prog.info? 67).map (fun i => (i.zero, i.size, i.bytes)) = some (some (.agg #[.int .i64 0, .slice none 0 0]), 2, 32) := by kernel_rfl
/-- What a call returns that tells fields: a row of its own, and an error. -/
def FieldsRet (r : List Fd × Int) (w : World) (e : Ending) (w' : World) : Prop :=
  ∃ (v : Value) (L : List Fv), e = .returned (.tuple #[v, .int .i64 r.2]) ∧ L.map (·.f) = r.1 ∧ OwnF w.heap.size w' v L ∧ Below w.heap.size w w'
theorem infoF : (Try.prog.info? 67).map (·.size) = some 2 := by kernel_rfl
end Go.Proofs.Ytachkhjbckapoaa

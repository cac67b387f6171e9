/- Lists of lists that a call makes itself: kept, read, appended to. -/
import Derived.Test.YtfmekjpmjefpmaaOwn3
namespace Go.Proofs.Ytfmekjpmjefpmaa
open Go Go.RowKit

/-- A row is read as before while blocks other than its own are written. -/
theorem Row.grown1 {k : IntKind} {w w' : World} {row : Option Nat} {A : Option Addr} {xs : List Int} (h : Row (Kd.int k) w A xs) (hg : w.grownBy w' row) (hne : ∀ a, A = some a → some a.block ≠ row) : Row (Kd.int k) w' A xs := by
  refine ⟨h.1, fun hx => ?_⟩
  obtain ⟨b, o, rfl, hlt, hc⟩ := h.2 hx
  refine ⟨b, o, rfl, Nat.lt_of_lt_of_le hlt hg.size, fun i x hi => ?_⟩
  obtain ⟨cs, hk, hcs⟩ := hc i x hi
  exact ⟨cs, hk, fun j u hu => hg.cell (hcs j u hu) (hne (⟨b, o, none⟩ : Addr) rfl : some (⟨b, o, none⟩ : Addr).block ≠ row)⟩

/-- Lists that lie in a row of slices, all of it in the blocks from lo up to hi. -/
def RowsIn (w : World) (lo hi : Nat) (A : Option Addr) (L : List (List Int)) : Prop :=
  hi ≤ w.heap.size ∧ L.length ≤ 1000000 ∧ (L ≠ [] → ∃ g, A = some ⟨g, 0, none⟩ ∧ lo ≤ g ∧ g < hi ∧
    ∀ (j : Nat) (l : List Int), L[j]? = some l → ∃ (B : Option Addr) (d : Nat), w.cell? ⟨g, j, none⟩ = some (.slice B l.length d) ∧ l.length ≤ d ∧ Row (Kd.int .i64) w B l ∧ ∀ a, B = some a → lo ≤ a.block ∧ a.block < hi)
theorem RowsIn.grown {w w' : World} {lo hi : Nat} {row : Option Nat} {A : Option Addr} {L : List (List Int)} (h : RowsIn w lo hi A L) (hg : w.grownBy w' row) (hne : ∀ b, row = some b → b < lo ∨ hi ≤ b) : RowsIn w' lo hi A L := by
  refine ⟨Nat.le_trans h.1 hg.size, h.2.1, fun hL => ?_⟩
  obtain ⟨g, rfl, h1, h2, hc⟩ := h.2.2 hL
  refine ⟨g, rfl, h1, h2, fun j l hj => ?_⟩
  obtain ⟨B, d, c1, c2, c3, c4⟩ := hc j l hj
  exact ⟨B, d, hg.cell c1 (fun e => by have := hne g e.symm; omega), c2, c3.grown1 hg (fun a ha e => by have := hne a.block e.symm; have := c4 a ha; omega), c4⟩
theorem grown_below {w w' : World} (h : Below w.heap.size w w') : w.grownBy w' none := ⟨h.os, h.tape, h.output, h.size, fun k hk _ => h.block k hk⟩
theorem RowsIn.below {w w' : World} {lo hi : Nat} {A : Option Addr} {L : List (List Int)} (h : RowsIn w lo hi A L) (hb : Below w.heap.size w w') : RowsIn w' lo hi A L :=
  h.grown (grown_below hb) (fun b e => by cases e)

/-- Lists in a row of the call's own. -/
def OwnL (w : World) (base : Nat) (A : Option Addr) (c : Nat) (L : List (List Int)) : Prop :=
  ∃ vs : List Value, w.ownsRow base 22 1 (Value.slice A L.length c) L.length vs ∧
    ∀ (j : Nat) (l : List Int), L[j]? = some l → ∃ (B : Option Addr) (d : Nat), vs[j]? = some (Value.slice B l.length d) ∧ l.length ≤ d ∧ Row (Kd.int .i64) w B l ∧ ∀ a, B = some a → base ≤ a.block ∧ a.block < w.heap.size ∧ some a.block ≠ (Value.slice A L.length c).ownBlock
section
variable {w w1 : World} {base : Nat} {A : Option Addr} {c : Nat} {L : List (List Int)}
theorem OwnL.grown {row : Option Nat} (h : OwnL w base A c L) (hg : w.grownBy w1 row) (hne : ∀ b, row = some b → b < base) : OwnL w1 base A c L := by
  obtain ⟨vs, h1, h2⟩ := h
  refine ⟨vs, h1.kept hg ?_, fun j l hj => ?_⟩
  · rcases hr : (Value.slice A L.length c).ownBlock with _ | b
    · exact .inl rfl
    · exact .inr (fun e => by have := hne b e.symm; have := h1.lt b hr; omega)
  · obtain ⟨B, d, c1, c2, c3, c4⟩ := h2 j l hj
    exact ⟨B, d, c1, c2, c3.grown1 hg (fun a ha e => by have := hne a.block e.symm; have := c4 a ha; omega), fun a ha => ⟨(c4 a ha).1, Nat.lt_of_lt_of_le (c4 a ha).2.1 hg.size, (c4 a ha).2.2⟩⟩
theorem OwnL.below (h : OwnL w base A c L) (hb : Below w.heap.size w w1) : OwnL w1 base A c L := h.grown (grown_below hb) (fun b e => by cases e)
theorem OwnL.mono {base' : Nat} (h : OwnL w base A c L) (hb : base' ≤ base) : OwnL w base' A c L := by
  obtain ⟨vs, h1, h2⟩ := h
  refine ⟨vs, h1.mono hb, fun j l hj => ?_⟩
  obtain ⟨B, d, c1, c2, c3, c4⟩ := h2 j l hj
  exact ⟨B, d, c1, c2, c3, fun a ha => ⟨Nat.le_trans hb (c4 a ha).1, (c4 a ha).2⟩⟩
theorem OwnL.new (h : OwnL w base A c L) : ∀ q, (Value.slice A L.length c).ownBlock = some q → base ≤ q ∧ q < w.heap.size := by
  obtain ⟨vs, h1, h2⟩ := h; exact h1.lt
theorem OwnL.rows (h : OwnL w base A c L) (hL : L.length ≤ 1000000) : RowsIn w base w.heap.size A L := by
  obtain ⟨vs, h1, h2⟩ := h
  refine ⟨Nat.le_refl _, hL, fun hne => ?_⟩
  obtain ⟨g, cap, e, hb, hlt⟩ := h1.form (List.length_pos_iff.2 hne)
  simp only [Value.slice.injEq] at e
  obtain ⟨rfl, _, rfl⟩ := e
  refine ⟨g, rfl, hb, hlt, fun j l hj => ?_⟩
  obtain ⟨B, d, c1, c2, c3, c4⟩ := h2 j l hj
  have hjl : j < L.length := (List.getElem?_eq_some_iff.1 hj).1
  exact ⟨B, d, by rw [h1.cellAt j (by omega), c1], c2, c3, fun a ha => ⟨(c4 a ha).1, (c4 a ha).2.1⟩⟩
theorem OwnL.made (w : World) (hb : base ≤ w.heap.size) : OwnL (w.alloc (.cells #[] 22)) base (some ⟨w.heap.size, 0, none⟩) 0 [] :=
  ⟨[], ⟨rfl, .inr ⟨w.heap.size, 0, #[], rfl, hb, heap_alloc_new _ _, Nat.le_refl _, Nat.zero_le _, rfl, rfl⟩⟩, by simp⟩
theorem OwnI.made1 (k : IntKind) (e : TypeId) (w : World) (x : Int) (hb : base ≤ w.heap.size) (hx : (Lit.int k x).wf = true) : OwnI k e (w.alloc (.cells #[.int k x] e)) base (some ⟨w.heap.size, 0, none⟩) 1 [x] :=
  ⟨⟨rfl, .inr ⟨w.heap.size, 1, #[.int k x], rfl, hb, heap_alloc_new _ _, Nat.le_refl _, by unfold maxLen; omega, rfl, rfl⟩⟩, by simpa using hx⟩
/-- The list of one empty list. -/
theorem OwnL.one_nil {B : Nat} (hB : base ≤ B) (hBw : B < w.heap.size) (hb : base ≤ w.heap.size) : OwnL (w.alloc (.cells #[.slice (some ⟨B, 0, none⟩) 0 0] 22)) base (some ⟨w.heap.size, 0, none⟩) 1 [[]] := by
  refine ⟨[.slice (some ⟨B, 0, none⟩) 0 0], ⟨rfl, .inr ⟨w.heap.size, 1, _, rfl, hb, heap_alloc_new _ _, Nat.le_refl _, by unfold maxLen; omega, rfl, rfl⟩⟩, fun j l hj => ?_⟩
  have hj0 : j = 0 := by have := (List.getElem?_eq_some_iff.1 hj).1; simpa using this
  subst hj0
  simp at hj
  subst hj
  refine ⟨some ⟨B, 0, none⟩, 0, rfl, Nat.le_refl _, ⟨by simp, fun h => absurd rfl h⟩, fun a ha => ?_⟩
  cases ha
  refine ⟨hB, by simp; omega, ?_⟩
  simp [Value.ownBlock]
  omega

variable {P : Program} {o : Oper} {a : Act} {N : Value → World → Prop}
/-- 'out = append(out, l)'. -/
theorem some_appendS (s x : Operand) (t : TypeId)
    (ho : o.op = .call { callee := .builtin .append, args := #[s, x], argTypes := #[t, t] }) (ht : P.underlying t = some (.slice 22))
    (hi : (P.info? 22).map (fun i => (i.zero, i.size, i.bytes)) = some (some (.slice none 0 0), 1, 24)) (nx : Nat)
    (hs : a.eval s = .slice A nx c) (hnx : nx = L.length) (hown : OwnL w base A c L) (ad : Addr) (hx : a.eval x = .slice (some ad) 1 1) (B : Option Addr) (l : List Int) (d : Nat) (hn : w.cell? ad = some (.slice B l.length d)) (hd : l.length ≤ d) (hrow : Row (Kd.int .i64) w B l)
    (hB : ∀ b, B = some b → base ≤ b.block ∧ b.block < w.heap.size ∧ some b.block ≠ (Value.slice A L.length c).ownBlock)
    (hlen : L.length + 1 ≤ 1000000) (hbase : base ≤ w.heap.size)
    (h : ∀ g cap w', OwnL w' base (some ⟨g, 0, none⟩) cap (L ++ [l]) → w.grownBy w' (Value.slice A L.length c).ownBlock → ((Value.slice A L.length c).ownBlock = some g ∨ g = w.heap.size) → g < w'.heap.size → N (.slice (some ⟨g, 0, none⟩) (L.length + 1) cap) w') : Seg2.GivesSome P N ((execOp a.eval o).run P w) := by
  subst hnx
  obtain ⟨vs, hv1, hv2⟩ := hown
  obtain ⟨i0, hi1, hz0, hz1, hz2⟩ := info_parts hi
  have hl1 : (L ++ [l]).length = L.length + 1 := by simp
  obtain ⟨g, cap, w', hr, h1, h2, h3, h4⟩ := run_append_lies (P := P) w t o.type base 22 i0 (.slice none 0 0) 1 24 ht hi1 hz0 hz1 hz2 rfl (by omega) _ _ _ hv1 ad 1 1 [.slice B l.length d] rfl (fun j u hu => by
      have hj : j = 0 := by
        rcases Nat.eq_zero_or_pos j with h' | h'
        · exact h'
        · rw [List.getElem?_eq_none (by simp; omega)] at hu; cases hu
      subst hj
      simp at hu
      subst hu
      rw [Addr.add_zero']
      exact hn) (by simp [Value.oneCell']) (by omega) (by unfold maxLen; omega) (by omega) hbase w.heap.size rfl
  rw [exec_append ho hs hx hr]
  have hvl : vs.length = L.length := by have := hv1.1; simpa using this
  refine h g cap w' ⟨vs ++ [.slice B l.length d], by rw [hl1]; exact h1, fun j m hj => ?_⟩ h2 h3 h4
  have hgne : ∀ b : Nat, b < w.heap.size → some b ≠ (Value.slice A L.length c).ownBlock → some b ≠ (Value.slice (some ⟨g, 0, none⟩) (L ++ [l]).length cap).ownBlock := fun b hb hb' e => by
    simp only [Value.ownBlock, Option.some.injEq] at e
    subst e
    rcases h3 with h3 | h3
    · exact hb' h3.symm
    · omega
  rcases Nat.lt_or_ge j L.length with hlt | hge
  · rw [List.getElem?_append_left hlt] at hj
    obtain ⟨C, f, c1, c2, c3, c4⟩ := hv2 j m hj
    refine ⟨C, f, by rw [List.getElem?_append_left (by omega)]; exact c1, c2, c3.grown1 h2 (fun b hb => (c4 b hb).2.2), fun b hb => ⟨(c4 b hb).1, Nat.lt_of_lt_of_le (c4 b hb).2.1 h2.size, hgne _ (c4 b hb).2.1 (c4 b hb).2.2⟩⟩
  · have hj' : j = L.length := by have := (List.getElem?_eq_some_iff.1 hj).1; simp at this; omega
    subst hj'
    simp at hj
    subst hj
    refine ⟨B, d, by rw [List.getElem?_append_right (by omega), hvl]; simp, hd, hrow.grown1 h2 (fun b hb => (hB b hb).2.2), fun b hb => ⟨(hB b hb).1, Nat.lt_of_lt_of_le (hB b hb).2.1 h2.size, hgne _ (hB b hb).2.1 (hB b hb).2.2⟩⟩
end
end Go.Proofs.Ytfmekjpmjefpmaa

/- Lists of numbers that a call makes itself: kept, read, appended to. -/
import Derived.Test.YtfmekjpmjefpmaaBase
import Derived.Deep.AppendLies
import Derived.Deep.Cut
import Derived.Deep.CutBlock
import Derived.Deep.DeepCutAuto
import Derived.Deep.Onto
import Derived.RangeFuncOwn
import Derived.Laws.ResultCell
import Derived.Laws.Rows
import Derived.Extends
namespace Go.Proofs.Ytfmekjpmjefpmaa
open Go Go.RowKit

theorem bthen {a b c : World} (h : Below a.heap.size a b) (k : Below b.heap.size b c) : Below a.heap.size a c := h.trans (k.mono h.size)
theorem balloc {a b : World} (h : Below a.heap.size a b) (o : Obj) : Below a.heap.size a (b.alloc o) := h.alloc h.size o
theorem bdrew {a b : World} (h : Below a.heap.size a b) : Below a.heap.size a b.drew := h.drew
theorem balloc0 (w : World) (o : Obj) : Below w.heap.size w (w.alloc o) := balloc (Below.refl _ _) o
theorem bcellE {W w1 : World} (hb : Below W.heap.size W w1) {b o : Nat} {v : Value} (h : W.cell? ⟨b, o, none⟩ = some v) : w1.cell? ⟨b, o, none⟩ = some v :=
  ((bcell hb).1 _ _ (World.block_lt_of_cell? W _ h)).trans h

/-- Block b holds these cells. -/
structure Box (w : World) (b : Nat) (C : Array Value) : Prop where
  lt : b < w.heap.size
  cell : ∀ j, w.cell? ⟨b, j, none⟩ = C[j]?
  free : ∀ j, w.frozen? ⟨b, j, none⟩ = false
theorem Box.below {w w1 : World} {b : Nat} {C : Array Value} (h : Box w b C) (hb : Below w.heap.size w w1) : Box w1 b C :=
  ⟨Nat.lt_of_lt_of_le h.lt hb.size, fun j => ((bcell hb).1 _ _ h.lt).trans (h.cell j), fun j => ((bcell hb).2 _ _ h.lt).trans (h.free j)⟩
theorem Box.grown {w w1 : World} {b : Nat} {C : Array Value} {row : Option Nat} (h : Box w b C) (hg : w.grownBy w1 row) (hne : some b ≠ row) : Box w1 b C :=
  ⟨Nat.lt_of_lt_of_le h.lt hg.size, fun j => (World.cell?_of_block (a := ⟨b, j, none⟩) (hg.block b h.lt hne)).trans (h.cell j), fun j => (World.frozen?_of_block (a := ⟨b, j, none⟩) (hg.block b h.lt hne)).trans (h.free j)⟩
theorem Box.alloc {w : World} {b : Nat} {C : Array Value} (h : Box w b C) (o : Obj) : Box (w.alloc o) b C := h.below (balloc0 _ _)
/-- A box for an argument that came in by value; the world behind it under a name. -/
theorem box1 (w : World) (C : Array Value) (t : TypeId) : ∃ W0, w.alloc (.cells C t) = W0 ∧ Below w.heap.size w W0 ∧ Box W0 w.heap.size C :=
  ⟨_, rfl, balloc0 _ _, by simp, fun j => by simp [go_sem], fun j => by simp [go_sem]⟩
theorem box2 (w : World) (C D : Array Value) (t u : TypeId) : ∃ W0, (w.alloc (.cells C t)).alloc (.cells D u) = W0 ∧ Below w.heap.size w W0 ∧ Box W0 w.heap.size C ∧ Box W0 (w.heap.size + 1) D :=
  ⟨_, rfl, balloc (balloc0 _ _) _, ⟨by simp; omega, fun j => by simp [go_sem], fun j => by simp [go_sem]⟩, ⟨by simp, fun j => by simp [go_sem], fun j => by simp [go_sem]⟩⟩
theorem box3 (w : World) (C D E : Array Value) (t u v : TypeId) : ∃ W0, ((w.alloc (.cells C t)).alloc (.cells D u)).alloc (.cells E v) = W0 ∧ Below w.heap.size w W0 ∧ Box W0 w.heap.size C ∧ Box W0 (w.heap.size + 1) D ∧ Box W0 (w.heap.size + 1 + 1) E := by
  obtain ⟨W1, h1, h2, h3, h4⟩ := box2 w C D t u
  have hs : W1.heap.size = w.heap.size + 1 + 1 := by rw [← h1]; simp
  obtain ⟨W2, k1, k2, k3⟩ := box1 W1 E v
  rw [hs] at k3
  exact ⟨W2, by rw [h1, k1], bthen h2 k2, h3.below k2, h4.below k2, k3⟩

theorem Box.set {w : World} {b j : Nat} {C D : Array Value} {v : Value} (h : Box w b C) (hj : j < C.size) (hD : C.setIfInBounds j v = D) : Box (w.setCell ⟨b, j, none⟩ v) b D := by
  subst hD
  refine ⟨by simpa [World.setCell] using h.lt, fun i => ?_, fun i => (World.frozen?_setCell _ _ _ _).trans (h.free i)⟩
  by_cases e : j = i
  · subst e
    rw [World.cell?_setCell_same _ _ _ ((h.cell j).trans (Array.getElem?_eq_getElem hj))]
    simp [hj]
  · rw [World.cell?_setCell_other _ _ _ _ (by intro h; simp only [Addr.mk.injEq] at h; omega), h.cell i]
    simp [e]
theorem bset {a w : World} {B b j : Nat} {v : Value} (h : Below B a w) (hb : B ≤ b) : Below B a (w.setCell ⟨b, j, none⟩ v) := h.setCell hb v
/-- The whole of a box is read. -/
theorem Box.load {P : Program} {w : World} {g : Nat} {cs : Array Value} {ty : TypeId} {d : TypeDesc} (h : Box w g cs)
    (hu : P.underlying ty = some d) (hd : (match d with | .struct _ | .array _ _ => true | _ => false) = true) (hi : (P.info? ty).map (·.size) = some cs.size) :
    (loadVar ty ⟨g, 0, none⟩).run P w = .ok (.agg cs) w := by
  have hl : (loadCells ⟨g, 0, none⟩ cs.toList.length).run P w = .ok cs.toList.toArray w :=
    run_loadCells_list (P := P) w ⟨g, 0, none⟩ cs.toList (fun j v hv => by
      have hadd : (⟨g, 0, none⟩ : Addr).add j = ⟨g, j, none⟩ := by unfold Addr.add; split <;> simp_all
      rw [hadd, h.cell j]
      simpa using hv)
  cases hq : P.info? ty with
  | none => simp [hq] at hi
  | some i =>
    have hs : i.size = cs.size := by simpa [hq] using hi
    have hagg : (isAgg ty).run P w = .ok true w := by
      unfold isAgg
      rw [Sem.run_bind, run_underlying hu w]
      cases d <;> simp_all
    simp only [Array.length_toList, Array.toArray_toList] at hl
    simp [loadVar, Sem.run_bind, hagg, sizeOf, typeInfo, hq, hs, hl]
theorem asAddr_run {P : Program} (p : Addr) (w : World) : (asAddr (.pointer (some p))).run P w = .ok p w := by simp [asAddr, go_sem]
/-- A box is stored over. -/
theorem box_over7 {w0 w : World} {B b : Nat} {C : Array Value} {c0 c1 c2 c3 c4 c5 c6 : Value} (h : Box w b C) (hC : C.size = 7) (hB : Below B w0 w) (hb : B ≤ b) :
    ∃ W, ((((((w.setCell ⟨b, 0, none⟩ c0).setCell ⟨b, 1, none⟩ c1).setCell ⟨b, 2, none⟩ c2).setCell ⟨b, 3, none⟩ c3).setCell ⟨b, 4, none⟩ c4).setCell ⟨b, 5, none⟩ c5).setCell ⟨b, 6, none⟩ c6 = W ∧ Below B w0 W ∧ Box W b #[c0, c1, c2, c3, c4, c5, c6] := by
  obtain ⟨l⟩ := C
  obtain ⟨x0, x1, x2, x3, x4, x5, x6, rfl⟩ : ∃ x0 x1 x2 x3 x4 x5 x6, l = [x0, x1, x2, x3, x4, x5, x6] := by
    match l, hC with
    | [x0, x1, x2, x3, x4, x5, x6], _ => exact ⟨x0, x1, x2, x3, x4, x5, x6, rfl⟩
  refine ⟨_, rfl, bset (bset (bset (bset (bset (bset (bset hB hb) hb) hb) hb) hb) hb) hb, ?_⟩
  refine Box.set (C := #[c0, c1, c2, c3, c4, c5, x6]) ?_ (by simp) rfl
  refine Box.set (C := #[c0, c1, c2, c3, c4, x5, x6]) ?_ (by simp) rfl
  refine Box.set (C := #[c0, c1, c2, c3, x4, x5, x6]) ?_ (by simp) rfl
  refine Box.set (C := #[c0, c1, c2, x3, x4, x5, x6]) ?_ (by simp) rfl
  refine Box.set (C := #[c0, c1, x2, x3, x4, x5, x6]) ?_ (by simp) rfl
  refine Box.set (C := #[c0, x1, x2, x3, x4, x5, x6]) ?_ (by simp) rfl
  exact Box.set (C := #[x0, x1, x2, x3, x4, x5, x6]) h (by simp) rfl
theorem results_cellv {P : Program} {fn : Func} {p u : Tmp} {ty : TypeId} (h : fn.results = #[.cell p ty, .tmp u]) {tmps : Array Value} {w : World} {a : Addr} {v x : Value} (hp : tmps.getD p undef = .pointer (some a)) (hu : tmps.getD u undef = x)
    (hl : (loadVar ty a).run P w = .ok v w) : (results fn tmps).run P w = .ok (.tuple #[v, x]) w := by
  rw [results_cell_tmp h, hp, hu, asAddr_run]
  simp only [Result.andThen]
  rw [hl]

/-- A list of numbers in a row of the call's own, from block base on. -/
def OwnI (k : IntKind) (e : TypeId) (w : World) (base : Nat) (A : Option Addr) (c : Nat) (xs : List Int) : Prop :=
  w.ownsRow base e 1 (.slice A xs.length c) xs.length (xs.map (Value.int k)) ∧ ∀ x ∈ xs, (Lit.int k x).wf = true
section
variable {k : IntKind} {e : TypeId} {w w1 : World} {base : Nat} {A : Option Addr} {c : Nat} {xs : List Int}
theorem OwnI.nil (k : IntKind) (e : TypeId) (w : World) (base : Nat) : OwnI k e w base none 0 [] := ⟨World.ownsRow_nil w base e 1, by simp⟩
theorem OwnI.below (h : OwnI k e w base A c xs) (hb : Below w.heap.size w w1) : OwnI k e w1 base A c xs :=
  ⟨h.1.kept (row := none) ⟨hb.os, hb.tape, hb.output, hb.size, fun k hk _ => hb.block k hk⟩ (by cases A <;> simp [Value.ownBlock]), h.2⟩
theorem OwnI.alloc (h : OwnI k e w base A c xs) (o : Obj) : OwnI k e (w.alloc o) base A c xs := h.below (balloc0 w o)
theorem OwnI.drew (h : OwnI k e w base A c xs) : OwnI k e w.drew base A c xs := h.below (Below.refl _ _).drew
theorem OwnI.form (h : OwnI k e w base A c xs) : (A = none ∧ c = 0 ∧ xs = []) ∨ ∃ g cur, A = some ⟨g, 0, none⟩ ∧ base ≤ g ∧ w.heap[g]? = some (.cells cur e (0, 0)) ∧ xs.length ≤ c ∧ c ≤ maxLen ∧ cur.size = c ∧ cur.toList.take xs.length = xs.map (Value.int k) := by
  rcases h.1.2 with ⟨h1, h2⟩ | ⟨g, cap, cur, h1, h2, h3, h4, h5, h6, h7⟩
  · simp only [Value.slice.injEq] at h1
    exact .inl ⟨h1.1, h1.2.2, List.eq_nil_of_length_eq_zero h2⟩
  · simp only [Value.slice.injEq] at h1
    obtain ⟨rfl, _, rfl⟩ := h1
    exact .inr ⟨g, cur, rfl, h2, h3, h4, h5, by simpa using h6, by simpa using h7⟩
theorem OwnI.len (h : OwnI k e w base A c xs) : xs.length ≤ c ∧ c ≤ maxLen := by
  rcases h.form with ⟨_, rfl, rfl⟩ | ⟨_, _, _, _, _, h1, h2, _⟩
  · simp
  · exact ⟨h1, h2⟩
theorem OwnI.row (h : OwnI k e w base A c xs) : Row (Kd.int k) w A xs := by
  have hl := h.len
  refine ⟨by unfold maxLen at hl; omega, fun hne => ?_⟩
  rcases h.form with ⟨_, _, rfl⟩ | ⟨g, cur, rfl, hb, hg, h1, h2, h3, h4⟩
  · exact absurd rfl hne
  · refine ⟨g, 0, rfl, (Array.getElem?_eq_some_iff.1 hg).1, fun i x hx => ?_⟩
    have hi : i < xs.length := (List.getElem?_eq_some_iff.1 hx).1
    refine ⟨[.int k x], ⟨rfl, h.2 x (List.mem_of_getElem? hx)⟩, fun j u hu => ?_⟩
    have hj : j = 0 := by
      rcases Nat.eq_zero_or_pos j with h' | h'
      · exact h'
      · rw [List.getElem?_eq_none (by simp; omega)] at hu; cases hu
    subst hj
    have h5 := h.1.cellAt (g := g) (j := i) (by omega)
    simp only [Nat.zero_add, Nat.add_zero, Kd.int, Kd.one1, Nat.mul_one]
    rw [h5, List.getElem?_map, hx]
    simpa using hu
theorem OwnI.mono {base' : Nat} (h : OwnI k e w base A c xs) (hb : base' ≤ base) : OwnI k e w base' A c xs := ⟨h.1.mono hb, h.2⟩
/-- What was kept of the world that an append leaves. -/
theorem below_append {w0 : World} (hb : Below base w0 w) (h : OwnI k e w base A c xs) (hg : w.grownBy w1 (Value.slice A xs.length c).ownBlock) (hbase : base ≤ w.heap.size) : Below base w0 w1 :=
  hb.grown hg hbase (fun q hq => (h.1.lt q hq).1)
theorem OwnI.new (h : OwnI k e w base A c xs) : ∀ q, (Value.slice A xs.length c).ownBlock = some q → base ≤ q ∧ q < w.heap.size := h.1.lt

/-- 'out = append(out, x)', one number. -/
theorem append1 {P : Program} {ops : Array Oper} {rest : List Oper} {o : Oper} {a : Act} {Q : Exit → Act → World → Prop} (hgd : o.guard = none) (s x : Operand) (t : TypeId)
    (ho : o.op = .call { callee := .builtin .append, args := #[s, x], argTypes := #[t, t] }) (ht : P.underlying t = some (.slice e))
    (hi : (P.info? e).map (fun i => (i.zero, i.size, i.bytes)) = some (some (.int k 0), 1, 8))
    (hs : a.eval s = .slice A xs.length c) (hown : OwnI k e w base A c xs) (ad : Addr) (n : Int) (hx : a.eval x = .slice (some ad) 1 1) (hn : w.cell? ad = some (.int k n)) (hwf : (Lit.int k n).wf = true)
    (hlen : xs.length + 1 ≤ 1000000) (hbase : base ≤ w.heap.size)
    (h : ∀ g cap w', OwnI k e w' base (some ⟨g, 0, none⟩) cap (xs ++ [n]) → w.grownBy w' (Value.slice A xs.length c).ownBlock → ((Value.slice A xs.length c).ownBlock = some g ∨ g = w.heap.size) → g < w'.heap.size →
      wpList P ops Q rest (a.put o.dst (.slice (some ⟨g, 0, none⟩) (xs ++ [n]).length cap)) w') : wpList P ops Q (o :: rest) a w := by
  obtain ⟨i0, hi1, hz0, hz1, hz2⟩ := info_parts hi
  have hl1 : (xs ++ [n]).length = xs.length + 1 := by simp
  refine wpList_append_lies (P := P) w hgd s x t ho base e i0 (.int k 0) 1 8 ht hi1 hz0 hz1 hz2 rfl (by omega) _ _ _ hs hown.1 ad 1 1 [.int k n] hx rfl (fun j u hu => ?_) (by simp [Value.oneCell']) (by omega) (by unfold maxLen; omega) (by omega) hbase w.heap.size rfl
    fun g cap w' h1 h2 h3 h4 => ?_
  · have hj : j = 0 := by
      rcases Nat.eq_zero_or_pos j with h' | h'
      · exact h'
      · rw [List.getElem?_eq_none (by simp; omega)] at hu; cases hu
    subst hj
    simp at hu
    subst hu
    exact hn
  · have := h g cap w' ⟨by rw [List.map_append, hl1]; exact h1, fun y hy => by
      rcases List.mem_append.1 hy with hy | hy
      · exact hown.2 y hy
      · rw [List.mem_singleton.1 hy]; exact hwf⟩ h2 h3 h4
    rw [hl1] at this
    exact this
/-- 'out = append(out, l...)', a list of numbers that is not empty. -/
theorem appendL {P : Program} {ops : Array Oper} {rest : List Oper} {o : Oper} {a : Act} {Q : Exit → Act → World → Prop} (hgd : o.guard = none) (s x : Operand) (t : TypeId)
    (ho : o.op = .call { callee := .builtin .append, args := #[s, x], argTypes := #[t, t] }) (ht : P.underlying t = some (.slice e))
    (hi : (P.info? e).map (fun i => (i.zero, i.size, i.bytes)) = some (some (.int k 0), 1, 8))
    (hs : a.eval s = .slice A xs.length c) (hown : OwnI k e w base A c xs) (B : Option Addr) (d : Nat) (ys : List Int) (hne : ys ≠ []) (hx : a.eval x = .slice B ys.length d) (hrow : Row (Kd.int k) w B ys)
    (hlen : xs.length + ys.length ≤ 1000000) (hbase : base ≤ w.heap.size)
    (h : ∀ g cap w', OwnI k e w' base (some ⟨g, 0, none⟩) cap (xs ++ ys) → w.grownBy w' (Value.slice A xs.length c).ownBlock → ((Value.slice A xs.length c).ownBlock = some g ∨ g = w.heap.size) → g < w'.heap.size →
      wpList P ops Q rest (a.put o.dst (.slice (some ⟨g, 0, none⟩) (xs ++ ys).length cap)) w') : wpList P ops Q (o :: rest) a w := by
  obtain ⟨i0, hi1, hz0, hz1, hz2⟩ := info_parts hi
  have hl1 : (xs ++ ys).length = xs.length + ys.length := by simp
  obtain ⟨b, off, rfl, hlt, hc⟩ := hrow.2 hne
  have hpos : 0 < ys.length := List.length_pos_iff.2 hne
  refine wpList_append_lies (P := P) w hgd s x t ho base e i0 (.int k 0) 1 8 ht hi1 hz0 hz1 hz2 rfl (by omega) _ _ _ hs hown.1 ⟨b, off, none⟩ ys.length d (ys.map (.int k)) hx (by simp) (fun j u hu => ?_)
    (by simp [Value.oneCell']) (by omega) (by unfold maxLen; omega) (by omega) hbase w.heap.size rfl
    fun g cap w' h1 h2 h3 h4 => ?_
  · rw [List.getElem?_map] at hu
    obtain ⟨y, hy, rfl⟩ := Option.map_eq_some_iff.1 hu
    obtain ⟨cs, ⟨rfl, _⟩, hcs⟩ := hc j y hy
    have := hcs 0 _ rfl
    have hadd : (⟨b, off, none⟩ : Addr).add j = ⟨b, off + j, none⟩ := by unfold Addr.add; split <;> simp_all
    rw [hadd]
    simpa [Kd.int, Kd.one1] using this
  · have := h g cap w' ⟨by rw [List.map_append, hl1]; exact h1, fun y hy => by
      rcases List.mem_append.1 hy with hy | hy
      · exact hown.2 y hy
      · obtain ⟨j, hj, rfl⟩ := List.mem_iff_getElem.1 hy
        obtain ⟨cs, ⟨rfl, hw⟩, _⟩ := hc j _ (List.getElem?_eq_getElem hj)
        exact hw⟩ h2 h3 h4
    rw [hl1] at this
    exact this
/-- A row that was just made, with nothing in it. -/
theorem OwnI.made (k : IntKind) (e : TypeId) (w : World) (hb : base ≤ w.heap.size) : OwnI k e (w.alloc (.cells #[] e)) base (some ⟨w.heap.size, 0, none⟩) 0 [] :=
  ⟨⟨rfl, .inr ⟨w.heap.size, 0, #[], rfl, hb, heap_alloc_new _ _, Nat.le_refl _, Nat.zero_le _, rfl, rfl⟩⟩, by simp⟩
/-- An element is written. -/
theorem OwnI.set {g j : Nat} {x : Int} (h : OwnI k e w base (some ⟨g, 0, none⟩) c xs) (hj : j < xs.length) (hx : (Lit.int k x).wf = true) :
    OwnI k e (w.setCell ⟨g, j, none⟩ (.int k x)) base (some ⟨g, 0, none⟩) c (xs.set j x) := by
  refine ⟨⟨by simp, ?_⟩, fun y hy => ?_⟩
  · obtain ⟨_, h2⟩ := h.1
    rcases h2 with ⟨h2, _⟩ | ⟨g', cap, cur, h1, h2, h3, h4, h5, h6, h7⟩
    · cases h2
    · simp only [Value.slice.injEq, Option.some.injEq, Addr.mk.injEq, and_true] at h1
      obtain ⟨rfl, _, rfl⟩ := h1
      refine .inr ⟨g, c, cur.setIfInBounds j (.int k x), by simp, h2, ?_, by simpa using h4, h5, by simpa using h6, ?_⟩
      · simp only [World.setCell]
        rw [Array.getElem?_modify]
        simp [h3]
      · rw [Nat.mul_one] at *
        rw [List.length_set, Array.toList_setIfInBounds, List.take_set, h7, List.map_set]
  · rcases List.mem_or_eq_of_mem_set hy with hy | rfl
    · exact h.2 y hy
    · exact hx
/-- A store of one cell. -/
theorem store1 {P : Program} {ops : Array Oper} {rest : List Oper} {o : Oper} {a : Act} {Q : Exit → Act → World → Prop} {g j : Nat} {v u : Value} (hgd : o.guard = none) (t : TypeId) (p x : Operand)
    (ho : o.op = .store t p x) (hd : o.dst = none) (hp : a.eval p = .pointer (some ⟨g, j, none⟩)) (hx : a.eval x = v) (h1 : v.oneCell' = true) (hsz : (P.info? t).map (·.size) = some 1) (hc : w.cell? ⟨g, j, none⟩ = some u) (hf : w.frozen? ⟨g, j, none⟩ = false)
    (h : wpList P ops Q rest a (w.setCell ⟨g, j, none⟩ v)) : wpList P ops Q (o :: rest) a w := by
  refine wpList_plain hgd fun K hK => ?_
  have hrun : (storeVar t ⟨g, j, none⟩ v).run P w = .ok () (w.setCell ⟨g, j, none⟩ v) := by
    cases hq : P.info? t with
    | none => simp [hq] at hsz
    | some i =>
      have hs : i.size = 1 := by simpa [hq] using hsz
      have hv : v.cells = #[v] := by cases v <;> first | rfl | cases h1
      simp [storeVar, hv, sizeOf, typeInfo, hq, hs, storeCells, run_store P _ _ v _ h1, Addr.add_zero', hc, hf, Result.andThen, Sem.run_bind]
  unfold Oper.wp execOp
  simp only [ho, hp, hx, Instr.storeAt, Instr.sureAddr, Sem.run_bind, Sem.run_pure, Result.andThen_ok, hrun]
  have hp0 : a.put o.dst undef = a := by rw [hd]; rfl
  simp only [Oper.upon, hp0]
  exact hK _ _ h
end
end Go.Proofs.Ytfmekjpmjefpmaa

/- How what comes in is read, as lists and structures: numbers, slices, structs, over any program. -/
import Derived.Test.YtfmekjpmjefpmaaBase
import Derived.ProofKit
import Derived.OpenShut
import Derived.SizedLaws
namespace Go.Proofs.Ytfmekjpmjefpmaa
open Go Go.RowKit Go.ChangeShapes Go.WideShapes

section
variable {H : Type} {enc : TypeId × Value → H} {P : Program} {w : World}

/-- Cells that are read as type t hold some x of a kind, and x is of no machine's size. -/
def Opens {H : Type} (enc : TypeId × Value → H) (P : Program) (w : World) (t : TypeId) {α : Type} (d : Kd α) (β : α → Prop) : Prop :=
  ∀ (fuel : Nat) (cs : List Value) (x : DataW H × List MemPlace), DataW.trod enc P w 0 (fun _ => true) true fuel t cs = some x → (x.1.weights P t).all (· ≤ reachBytes) = true → ∃ y, d.K w y cs ∧ β y
theorem opens_int {t : TypeId} {k : IntKind} (ht : P.underlying t = some (.int k)) : Opens enc P w t (Kd.int k) (fun _ => True) := by
  intro fuel cs x h _
  obtain ⟨n, rfl, _, hw⟩ := DataW.trod_int ht h
  exact ⟨n, ⟨rfl, hw⟩, trivial⟩
theorem weights_all {e : TypeId} : ∀ {l : List (DataW H)}, (DataW.weightsAll P e l).all (· ≤ reachBytes) = true → ∀ x ∈ l, (x.weights P e).all (· ≤ reachBytes) = true
  | d :: l, h, x, hx => by
    simp only [DataW.weightsAll, List.all_append, Bool.and_eq_true] at h
    rcases List.mem_cons.1 hx with rfl | hx
    · exact h.1
    · exact weights_all h.2 x hx
theorem addr_of_cell {a : Addr} {v : Value} (h : w.cell? a = some v) : a = ⟨a.block, a.off, none⟩ ∧ a.block < w.heap.size := by
  have hs := World.cell?_spot h
  refine ⟨by cases a; simp only at hs; rw [hs], World.block_lt_of_cell? w _ h⟩
theorem list_of {α : Type} : ∀ {Q : Nat → α → Prop} (n : Nat), (∀ i, i < n → ∃ y, Q i y) → ∃ ys : List α, ys.length = n ∧ ∀ i y, ys[i]? = some y → Q i y
  | _, 0, _ => ⟨[], rfl, by simp⟩
  | Q, n + 1, h => by
    obtain ⟨ys, hl, hys⟩ := list_of (Q := Q) n (fun i hi => h i (by omega))
    obtain ⟨y, hy⟩ := h n (by omega)
    refine ⟨ys ++ [y], by simp [hl], fun i z hz => ?_⟩
    rcases Nat.lt_or_ge i n with h' | h'
    · rw [List.getElem?_append_left (by omega)] at hz
      exact hys i z hz
    · rw [List.getElem?_append_right (by omega)] at hz
      have : i - ys.length = 0 := by
        rcases Nat.eq_zero_or_pos (i - ys.length) with h'' | h''
        · exact h''
        · rw [List.getElem?_eq_none (by simp; omega)] at hz; cases hz
      rw [this] at hz
      simp at hz
      subst hz
      have : i = n := by omega
      subst this
      exact hy
theorem opens_slice {t e : TypeId} {α : Type} {d : Kd α} {β : α → Prop} (ht : P.underlying t = some (.slice e)) (hc : P.cellsOf e = d.sz) (h0 : 0 < d.sz) (hb : 1 ≤ P.bytesOf e) (he : Opens enc P w e d β) :
    Opens enc P w t (Kd.slice d) (fun xs => xs.length ≤ reachBytes ∧ ∀ x ∈ xs, β x) := by
  intro fuel cs x h hw
  rcases DataW.trod_slice ht h with ⟨rfl, _⟩ | ⟨a, len, cap, elems, rest, n, _, rfl, rfl, _, hl, hm, hlen, hel, _, _⟩
  · exact ⟨[], ⟨none, 0, rfl, Nat.le_refl _, by simp, fun hne => absurd rfl hne⟩, by simp, by simp⟩
  · simp only [DataW.weights, ht, List.all_cons, Bool.and_eq_true, decide_eq_true_eq, List.all_append, List.length_map] at hw
    obtain ⟨hsz, hwe, _⟩ := hw
    have hL : elems.length ≤ reachBytes := by
      have : (elems.length + rest.length) * 1 ≤ (elems.length + rest.length) * P.bytesOf e := Nat.mul_le_mul_left _ hb
      omega
    have each : ∀ i, i < len → ∃ y cs', w.cells? 0 (a.add (i * P.cellsOf e)) (P.cellsOf e) = some cs' ∧ d.K w y cs' ∧ β y := fun i hi => by
      have h1 := hel i hi
      rw [List.getElem?_eq_getElem (by omega)] at h1
      obtain ⟨cs', hcs, htr⟩ := Option.bind_eq_some_iff.1 h1
      obtain ⟨y, hy, hβ⟩ := he n cs' _ htr (weights_all hwe _ (List.mem_map.2 ⟨_, List.getElem_mem _, rfl⟩))
      exact ⟨y, cs', hcs, hy, hβ⟩
    obtain ⟨ys, hyl, hys⟩ := list_of (Q := fun i y => ∃ cs', w.cells? 0 (a.add (i * P.cellsOf e)) (P.cellsOf e) = some cs' ∧ d.K w y cs' ∧ β y) len each
    refine ⟨ys, ⟨some a, cap, by rw [hyl], by omega, by unfold maxLen at hm; omega, fun hne => ?_⟩, by omega, fun y hy => ?_⟩
    · have hpos : 0 < len := by rw [← hyl]; exact List.length_pos_iff.2 hne
      have hcell : ∀ i y, ys[i]? = some y → ∃ cs', d.K w y cs' ∧ ∀ j u, cs'[j]? = some u → w.cell? ((a.add (i * P.cellsOf e)).add j) = some u := fun i y hy => by
        obtain ⟨cs', hcs, hK, _⟩ := hys i y hy
        obtain ⟨_, hl', hcs'⟩ := World.cells?_some hcs
        refine ⟨cs', hK, fun j u hu => ?_⟩
        have hj := (List.getElem?_eq_some_iff.1 hu).1
        rw [hcs' j (by omega), hu]
      obtain ⟨y0, hy0⟩ : ∃ y0, ys[0]? = some y0 := ⟨ys[0], List.getElem?_eq_getElem (by omega)⟩
      obtain ⟨cs0, hK0, hc0⟩ := hcell 0 y0 hy0
      obtain ⟨u0, hu0⟩ : ∃ u0, cs0[0]? = some u0 := ⟨cs0[0]'(by have := d.len hK0; omega), List.getElem?_eq_getElem (by have := d.len hK0; omega)⟩
      have hA := hc0 0 u0 hu0
      rw [Nat.zero_mul, Addr.add_zero', Addr.add_zero'] at hA
      obtain ⟨e1, e2⟩ := addr_of_cell hA
      refine ⟨a.block, a.off, by rw [← e1], e2, fun i y hy => ?_⟩
      obtain ⟨cs', hK, hcs'⟩ := hcell i y hy
      refine ⟨cs', hK, fun j u hu => ?_⟩
      have := hcs' j u hu
      rw [e1, Addr.add_lit, Addr.add_lit, hc, Nat.add_assoc] at this
      exact this
    · obtain ⟨i, hi⟩ := List.getElem?_of_mem hy
      obtain ⟨_, _, _, hβ⟩ := hys i y hi
      exact hβ
theorem each_of : ∀ {xs : List (DataW H)} {fs : List TypeId}, (DataW.weightsEach P fs xs).all (· ≤ reachBytes) = true → ∀ (i : Nat) (t : TypeId) (x : DataW H), fs[i]? = some t → xs[i]? = some x → (x.weights P t).all (· ≤ reachBytes) = true
  | [], _, _, i, t, x, _, hx => by simp at hx
  | _ :: _, [], _, i, t, x, ht, _ => by simp at ht
  | d :: xs, f :: fs, h, i, t, x, ht, hx => by
    simp only [DataW.weightsEach, List.all_append, Bool.and_eq_true] at h
    cases i with
    | zero => simp at ht hx; subst ht; subst hx; exact h.1
    | succ i => exact each_of h.2 i t x (by simpa using ht) (by simpa using hx)
/-- A struct: its field i. -/
theorem open_field {t : TypeId} {fs : Array Field} {fuel : Nat} {cs : List Value} {x : DataW H × List MemPlace} (ht : P.underlying t = some (.struct fs)) (h : DataW.trod enc P w 0 (fun _ => true) true fuel t cs = some x) (hw : (x.1.weights P t).all (· ≤ reachBytes) = true) :
    cs.length = P.cellsOf t ∧ ∀ (i t' off : Nat), (fs[i]?).map (fun f => (f.type, f.offset)) = some (t', off) → ∀ {α : Type} (d : Kd α) (β : α → Prop), Opens enc P w t' d β → ∃ y, d.K w y ((cs.drop off).take (P.cellsOf t')) ∧ β y := by
  obtain ⟨xs, n, _, rfl, hl, hlen, hf⟩ := DataW.trod_struct ht h
  refine ⟨hl, fun i t' off he α d β hd => ?_⟩
  obtain ⟨f, hi, he⟩ := Option.map_eq_some_iff.1 he
  simp only [Prod.mk.injEq] at he
  obtain ⟨rfl, rfl⟩ := he
  have h1 := hf i f hi
  have hlt : i < fs.size := (Array.getElem?_eq_some_iff.1 hi).1
  rw [List.getElem?_eq_getElem (by omega)] at h1
  simp only [DataW.weights, ht] at hw
  refine hd n _ _ h1 (each_of hw i f.type _ ?_ ?_)
  · simp [hi]
  · rw [List.getElem?_map, List.getElem?_eq_getElem (by omega)]; rfl
end
end Go.Proofs.Ytfmekjpmjefpmaa

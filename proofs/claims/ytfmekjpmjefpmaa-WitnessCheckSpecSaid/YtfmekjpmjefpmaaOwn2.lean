/- More on lists of numbers: a tail of a row, an append that makes a new row, a clone. -/
import Derived.Test.YtfmekjpmjefpmaaIter
namespace Go.Proofs.Ytfmekjpmjefpmaa
open Go Go.RowKit

theorem RowN.drop {N : Nat} {w : World} {A : Option Addr} {xs : List Int} (h : RowN N w A xs) (k c : Nat) (hc : xs.length ≤ c) : RowN N w (if c = k then A else A.map (·.add k)) (xs.drop k) := by
  refine ⟨⟨by have := h.1.1; rw [List.length_drop]; omega, fun hne => ?_⟩, fun a he => ?_⟩
  · have hk : k < xs.length := by
      rcases Nat.lt_or_ge k xs.length with h' | h'
      · exact h'
      · exact absurd (List.drop_eq_nil_of_le h') hne
    rw [if_neg (by omega)]
    obtain ⟨b, o, rfl, hlt, hcs⟩ := h.1.2 (by intro e; rw [e] at hk; simp at hk)
    refine ⟨b, o + k, by simp [Addr.add_lit], hlt, fun i x hx => ?_⟩
    rw [List.getElem?_drop] at hx
    obtain ⟨cs, hK, hcell⟩ := hcs _ x hx
    refine ⟨cs, hK, fun j u hu => ?_⟩
    have := hcell j u hu
    have e1 : (Kd.int .i64).sz = 1 := rfl
    rw [e1] at this ⊢
    rw [show o + k + (i * 1 + j) = o + ((k + i) * 1 + j) by omega]
    exact this
  · by_cases hck : c = k
    · rw [if_pos hck] at he; exact h.2 a he
    · rw [if_neg hck] at he
      cases A with
      | none => cases he
      | some a' =>
        cases he
        have hb : (a'.add k).block = a'.block := by unfold Addr.add; split <;> rfl
        rw [hb]
        exact h.2 a' rfl
theorem OwnI.rowN {e : TypeId} {w : World} {base N c : Nat} {A : Option Addr} {xs : List Int} (h : OwnI .i64 e w base A c xs) (hN : N ≤ base) : RowN N w A xs := by
  refine ⟨h.row, fun a he => ?_⟩
  rcases h.form with ⟨h1, _⟩ | ⟨g, cur, h1, h2, _⟩
  · rw [h1] at he; cases he
  · rw [h1] at he; cases he; exact Nat.le_trans hN h2
theorem RowN.mono {N N' : Nat} {w : World} {A : Option Addr} {xs : List Int} (h : RowN N w A xs) (hN : N' ≤ N) : RowN N' w A xs := ⟨h.1, fun a he => Nat.le_trans hN (h.2 a he)⟩

/-- An append onto a list that has no room: a new row. -/
theorem run_append_fresh {P : Program} {k : IntKind} (w : World) (t ty e : TypeId) (ht : P.underlying t = some (.slice e)) (hi : (P.info? e).map (fun i => (i.zero, i.size, i.bytes)) = some (some (.int k 0), 1, 8))
    (A : Option Addr) (xs : List Int) (hrow : Row (Kd.int k) w A xs) (hnil : xs = [] → A = none) (ad : Addr) (y : Int) (hy : w.cell? ad = some (.int k y)) (hwf : (Lit.int k y).wf = true) (hlen : xs.length + 1 ≤ 1000000) :
    ∃ g cap w', (Builtin.append_ #[t, t] ty #[.slice A xs.length xs.length, .slice (some ad) 1 1]).run P w = .ok (.slice (some ⟨g, 0, none⟩) (xs.length + 1) cap) w' ∧
      OwnI k e w' w.heap.size (some ⟨g, 0, none⟩) cap (xs ++ [y]) ∧ Below w.heap.size w w' := by
  obtain ⟨i0, hi1, hz0, hz1, hz2⟩ := info_parts hi
  have hnews : ∀ j u, ([Value.int k y] : List Value)[j]? = some u → w.cell? (ad.add j) = some u := fun j u hu => by
    have hj : j = 0 := by
      rcases Nat.eq_zero_or_pos j with h' | h'
      · exact h'
      · rw [List.getElem?_eq_none (by simp; omega)] at hu; cases hu
    subst hj
    simp at hu
    subst hu
    rw [Addr.add_zero']
    exact hy
  have hwfs : (∀ i x, xs[i]? = some x → (Lit.int k x).wf = true) → ∀ x ∈ xs ++ [y], (Lit.int k x).wf = true := fun h x hx => by
    rcases List.mem_append.1 hx with hx | hx
    · obtain ⟨i, hi', rfl⟩ := List.mem_iff_getElem.1 hx
      exact h i _ (List.getElem?_eq_getElem hi')
    · rw [List.mem_singleton.1 hx]; exact hwf
  have fin : (∃ v' w', (Builtin.append_ #[t, t] ty #[.slice A xs.length xs.length, .slice (some ad) 1 1]).run P w = .ok v' w' ∧ w'.ownsRow w.heap.size e 1 v' (xs.length + 1) (xs.map (Value.int k) ++ [.int k y]) ∧ w.grownBy w' none) →
      (∀ i x, xs[i]? = some x → (Lit.int k x).wf = true) → ∃ g cap w', (Builtin.append_ #[t, t] ty #[.slice A xs.length xs.length, .slice (some ad) 1 1]).run P w = .ok (.slice (some ⟨g, 0, none⟩) (xs.length + 1) cap) w' ∧
      OwnI k e w' w.heap.size (some ⟨g, 0, none⟩) cap (xs ++ [y]) ∧ Below w.heap.size w w' := fun ⟨v', w', h1, h2, h3⟩ h4 => by
    obtain ⟨g, cap, rfl, _, _⟩ := h2.form (by omega)
    refine ⟨g, cap, w', h1, ⟨?_, hwfs h4⟩, ⟨h3.os, h3.tape, h3.output, h3.size, fun b hb => h3.block b hb (by simp)⟩⟩
    rw [List.map_append]
    simpa using h2
  by_cases hne : xs = []
  · subst hne
    have hA := hnil rfl
    subst hA
    obtain ⟨v', w', h1, h2, h3, _⟩ := run_append_own (P := P) w w.heap.size t ty e i0 (.int k 0) 1 8 ht hi1 hz0 hz1 hz2 rfl (by omega) (.slice none 0 0) 0 [] (World.ownsRow_nil w _ e 1) ad 1 1 [.int k y] rfl hnews (by simp [Value.oneCell']) (by unfold maxLen; omega) (by omega) (Nat.le_refl _)
    exact fin ⟨v', w', h1, h2, h3⟩ (by simp)
  · obtain ⟨b, o, rfl, hlt, hc⟩ := hrow.2 hne
    have hold : ∀ j u, (xs.map (Value.int k))[j]? = some u → w.cell? ((⟨b, o, none⟩ : Addr).add j) = some u := fun j u hu => by
      rw [List.getElem?_map] at hu
      obtain ⟨x, hx, rfl⟩ := Option.map_eq_some_iff.1 hu
      obtain ⟨cs, ⟨rfl, _⟩, hcs⟩ := hc j x hx
      have := hcs 0 _ rfl
      rw [Addr.add_lit]
      simpa [Kd.int, Kd.one1] using this
    obtain ⟨v', w', h1, h2, h3⟩ := run_append_arg_grows (P := P) w t ty e i0 (.int k 0) 1 8 ht hi1 hz0 hz1 hz2 rfl (by omega) ⟨b, o, none⟩ xs.length xs.length (xs.map (Value.int k)) (by simp) hold ad 1 1 [.int k y] rfl hnews (by omega) (by unfold maxLen; omega) (by omega)
    exact fin ⟨v', w', h1, h2, h3⟩ (fun i x hx => by obtain ⟨cs, ⟨_, hw⟩, _⟩ := hc i x hx; exact hw)
/-- At an operation. -/
theorem some_append_fresh {P : Program} {k : IntKind} {o : Oper} {a : Act} {w : World} {N : Value → World → Prop} (s x : Operand) (t e : TypeId) (ho : o.op = .call { callee := .builtin .append, args := #[s, x], argTypes := #[t, t] })
    (ht : P.underlying t = some (.slice e)) (hi : (P.info? e).map (fun i => (i.zero, i.size, i.bytes)) = some (some (.int k 0), 1, 8))
    (A : Option Addr) (xs : List Int) (n : Nat) (hs : a.eval s = .slice A n n) (hn : n = xs.length) (hrow : Row (Kd.int k) w A xs) (hnil : xs = [] → A = none) (ad : Addr) (y : Int) (hx : a.eval x = .slice (some ad) 1 1) (hy : w.cell? ad = some (.int k y)) (hwf : (Lit.int k y).wf = true) (hlen : xs.length + 1 ≤ 1000000)
    (h : ∀ g cap w', OwnI k e w' w.heap.size (some ⟨g, 0, none⟩) cap (xs ++ [y]) → Below w.heap.size w w' → N (.slice (some ⟨g, 0, none⟩) (xs.length + 1) cap) w') : Seg2.GivesSome P N ((execOp a.eval o).run P w) := by
  subst hn
  obtain ⟨g, cap, w', h1, h2, h3⟩ := run_append_fresh (P := P) w t o.type e ht hi A xs hrow hnil ad y hy hwf hlen
  have hr : (execOp a.eval o).run P w = .ok (.value (.slice (some ⟨g, 0, none⟩) (xs.length + 1) cap)) w' := by
    unfold execOp
    simp only [ho, resolve, invoke, builtin, Sem.run_bind, Sem.run_pure, Result.andThen_ok, List.map_toArray, List.map_cons, List.map_nil, hs, hx, h1]
  rw [hr]
  exact h g cap w' h2 h3
end Go.Proofs.Ytfmekjpmjefpmaa

/- Appends at an operation that gives some value; steps of special operations that come up in whatever order. -/
import Derived.Test.YtfmekjpmjefpmaaSeg4
import Derived.Test.YtfmekjpmjefpmaaOwn2
import Derived.Deep.Upon
namespace Go.Proofs.Ytfmekjpmjefpmaa
open Go Go.RowKit Go.Proofs.Ytfmekjpmjefpmaa.Seg

namespace Seg2
variable {F : Fence} {n : Nat} {P : Program} {ops : Array Oper} {S : World → Prop} {Q : Exit → Act → World → Prop} {tail : List Oper} {m : Nat} {R : List Nat} {a : Act} {w : World}
def readyD (ops : Array Oper) (R : List Nat) : List Nat := R.filter fun j => R.all fun i => !((befGo [] ops.toList).getD j 0).testBit i
theorem readyD_mem {j : Nat} (hj : j ∈ R) (h : ∀ i ∈ R, ((befGo [] ops.toList).getD j 0).testBit i = false) : j ∈ readyD ops R := by
  unfold readyD
  rw [List.mem_filter, List.all_eq_true]
  exact ⟨hj, fun i hi => by rw [h i hi]; rfl⟩
/-- One that may come up. -/
theorem SpecD.one {j : Nat} {s : Oper} (hs : ops[j]? = some s) (hr : readyD ops R = [j]) (hw : Region.wanted s (yielded ops a.tmps) = true)
    (h : ∀ w', Below w.heap.size w w' → GivesSome P (fun v w'' => S w'' ∧ SpecD S F n P ops Q tail m (R.erase j) (a.put s.dst v) w'') ((execOp a.eval s).run P w')) : SpecD S F n P ops Q tail (m + 1) R a w := by
  intro i hi hri s' hs'
  have := readyD_mem hi hri
  rw [hr, List.mem_singleton] at this
  subst this
  rw [hs] at hs'
  cases hs'
  exact ⟨hw, h⟩
/-- Two that may come up. -/
theorem SpecD.two {j k : Nat} {s t : Oper} (hs : ops[j]? = some s) (ht : ops[k]? = some t) (hr : readyD ops R = [j, k]) (hw : Region.wanted s (yielded ops a.tmps) = true) (hw' : Region.wanted t (yielded ops a.tmps) = true)
    (h : ∀ w', Below w.heap.size w w' → GivesSome P (fun v w'' => S w'' ∧ SpecD S F n P ops Q tail m (R.erase j) (a.put s.dst v) w'') ((execOp a.eval s).run P w'))
    (h' : ∀ w', Below w.heap.size w w' → GivesSome P (fun v w'' => S w'' ∧ SpecD S F n P ops Q tail m (R.erase k) (a.put t.dst v) w'') ((execOp a.eval t).run P w')) : SpecD S F n P ops Q tail (m + 1) R a w := by
  intro i hi hri s' hs'
  have := readyD_mem hi hri
  rw [hr] at this
  rcases List.mem_cons.1 this with e | e
  · subst e
    rw [hs] at hs'
    cases hs'
    exact ⟨hw, h⟩
  · rw [List.mem_singleton] at e
    subst e
    rw [ht] at hs'
    cases hs'
    exact ⟨hw', h'⟩
theorem SpecD.nil (h : ∀ w', Below w.heap.size w w' → wpListIn F n P ops Q tail a w') : SpecD S F n P ops Q tail 0 R a w := h
end Seg2

section
variable {P : Program} {k : IntKind} {e : TypeId} {w : World} {base : Nat} {A : Option Addr} {c : Nat} {xs : List Int} {N : Value → World → Prop} {o : Oper} {a : Act}
theorem exec_append {v x y : Value} {w' : World} {s z : Operand} {t : TypeId} (ho : o.op = .call { callee := .builtin .append, args := #[s, z], argTypes := #[t, t] }) (hs : a.eval s = x) (hz : a.eval z = y)
    (h : (Builtin.append_ #[t, t] o.type #[x, y]).run P w = .ok v w') : (execOp a.eval o).run P w = .ok (.value v) w' := by
  unfold execOp
  simp only [ho, resolve, invoke, builtin, Sem.run_bind, Sem.run_pure, Result.andThen_ok, List.map_toArray, List.map_cons, List.map_nil, hs, hz, h]
theorem some_append1 (s x : Operand) (t : TypeId)
    (ho : o.op = .call { callee := .builtin .append, args := #[s, x], argTypes := #[t, t] }) (ht : P.underlying t = some (.slice e))
    (hi : (P.info? e).map (fun i => (i.zero, i.size, i.bytes)) = some (some (.int k 0), 1, 8)) (nx : Nat)
    (hs : a.eval s = .slice A nx c) (hnx : nx = xs.length) (hown : OwnI k e w base A c xs) (ad : Addr) (n : Int) (hx : a.eval x = .slice (some ad) 1 1) (hn : w.cell? ad = some (.int k n)) (hwf : (Lit.int k n).wf = true)
    (hlen : xs.length + 1 ≤ 1000000) (hbase : base ≤ w.heap.size)
    (h : ∀ g cap w', OwnI k e w' base (some ⟨g, 0, none⟩) cap (xs ++ [n]) → w.grownBy w' (Value.slice A xs.length c).ownBlock → g < w'.heap.size → N (.slice (some ⟨g, 0, none⟩) (xs.length + 1) cap) w') : Seg2.GivesSome P N ((execOp a.eval o).run P w) := by
  subst hnx
  obtain ⟨i0, hi1, hz0, hz1, hz2⟩ := info_parts hi
  have hl1 : (xs ++ [n]).length = xs.length + 1 := by simp
  obtain ⟨g, cap, w', hr, h1, h2, h3, h4⟩ := run_append_lies (P := P) w t o.type base e i0 (.int k 0) 1 8 ht hi1 hz0 hz1 hz2 rfl (by omega) _ _ _ hown.1 ad 1 1 [.int k n] rfl (fun j u hu => by
      have hj : j = 0 := by
        rcases Nat.eq_zero_or_pos j with h' | h'
        · exact h'
        · rw [List.getElem?_eq_none (by simp; omega)] at hu; cases hu
      subst hj
      simp at hu
      subst hu
      rw [Addr.add_zero']
      exact hn) (by simp [Value.oneCell']) (by omega) (by unfold maxLen; omega) (by omega) hbase w.heap.size rfl
  rw [exec_append ho hs hx hr]
  exact h g cap w' ⟨by rw [List.map_append, hl1]; exact h1, fun y hy => by
      rcases List.mem_append.1 hy with hy | hy
      · exact hown.2 y hy
      · rw [List.mem_singleton.1 hy]; exact hwf⟩ h2 h4
theorem some_appendL (s x : Operand) (t : TypeId)
    (ho : o.op = .call { callee := .builtin .append, args := #[s, x], argTypes := #[t, t] }) (ht : P.underlying t = some (.slice e))
    (hi : (P.info? e).map (fun i => (i.zero, i.size, i.bytes)) = some (some (.int k 0), 1, 8)) (nx : Nat)
    (hs : a.eval s = .slice A nx c) (hnx : nx = xs.length) (hown : OwnI k e w base A c xs) (B : Option Addr) (d : Nat) (ys : List Int) (hx : a.eval x = .slice B ys.length d) (hrow : Row (Kd.int k) w B ys)
    (hlen : xs.length + ys.length ≤ 1000000) (hbase : base ≤ w.heap.size)
    (h : ∀ A' cap w', OwnI k e w' base A' cap (xs ++ ys) → w.grownBy w' (Value.slice A xs.length c).ownBlock → N (.slice A' (xs.length + ys.length) cap) w') : Seg2.GivesSome P N ((execOp a.eval o).run P w) := by
  subst hnx
  obtain ⟨i0, hi1, hz0, hz1, hz2⟩ := info_parts hi
  have hl1 : (xs ++ ys).length = xs.length + ys.length := by simp
  by_cases hne : ys = []
  · subst hne
    have hr := run_append_nothing (P := P) w t t o.type e i0 ht hi1 A xs.length c hown.len.1 (.slice B 0 d) (by
      cases B with
      | none => exact Src.ofNil _ ht d
      | some b => exact Src.ofSlice _ ht b 0 d [] (by simp) (by simp) (by simp))
    rw [exec_append ho hs hx hr]
    have := h A c w (by simpa using hown) (World.grownBy.refl _ _)
    exact (by simpa using this : N (Value.slice A xs.length c) w)
  · obtain ⟨b, off, rfl, hlt, hc⟩ := hrow.2 hne
    have hpos : 0 < ys.length := List.length_pos_iff.2 hne
    obtain ⟨g, cap, w', hr, h1, h2, h3, h4⟩ := run_append_lies (P := P) w t o.type base e i0 (.int k 0) 1 8 ht hi1 hz0 hz1 hz2 rfl (by omega) _ _ _ hown.1 ⟨b, off, none⟩ ys.length d (ys.map (.int k)) (by simp) (fun j u hu => by
        rw [List.getElem?_map] at hu
        obtain ⟨y, hy, rfl⟩ := Option.map_eq_some_iff.1 hu
        obtain ⟨cs, ⟨rfl, _⟩, hcs⟩ := hc j y hy
        have := hcs 0 _ rfl
        have hadd : (⟨b, off, none⟩ : Addr).add j = ⟨b, off + j, none⟩ := by unfold Addr.add; split <;> simp_all
        rw [hadd]
        simpa [Kd.int, Kd.one1] using this) (by simp [Value.oneCell']) (by omega) (by unfold maxLen; omega) (by omega) hbase w.heap.size rfl
    rw [exec_append ho hs hx hr]
    exact h _ cap w' ⟨by rw [List.map_append, hl1]; exact h1, fun y hy => by
      rcases List.mem_append.1 hy with hy | hy
      · exact hown.2 y hy
      · obtain ⟨j, hj, rfl⟩ := List.mem_iff_getElem.1 hy
        obtain ⟨cs, ⟨rfl, hw⟩, _⟩ := hc j _ (List.getElem?_eq_getElem hj)
        exact hw⟩ h2
end
end Go.Proofs.Ytfmekjpmjefpmaa

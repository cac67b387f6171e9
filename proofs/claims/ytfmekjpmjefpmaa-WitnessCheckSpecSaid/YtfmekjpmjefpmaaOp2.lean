/- Races, cuts, verdicts that come in. -/
import Derived.Test.YtfmekjpmjefpmaaOpen
import Derived.Test.YtfmekjpmjefpmaaWz
namespace Go.Proofs.Ytfmekjpmjefpmaa
open Go Go.RowKit Go.ChangeShapes Go.WideShapes

section
variable {H : Type} {enc : TypeId × Value → H} {w : World}
theorem opens_ints : Opens enc Try.prog w 22 (Kd.slice (Kd.int .i64)) (fun xs => xs.length ≤ reachBytes ∧ ∀ x ∈ xs, True) :=
  opens_slice Try.underlying22 (by kernel_rfl) (by decide) (of_decide_eq_true (by kernel_rfl)) (opens_int Try.underlying3)
theorem opens_bytes : Opens enc Try.prog w 35 (Kd.slice (Kd.int .u8)) (fun xs => xs.length ≤ reachBytes ∧ ∀ x ∈ xs, True) :=
  opens_slice Try.underlying35 (by kernel_rfl) (by decide) (of_decide_eq_true (by kernel_rfl)) (opens_int Try.underlying5)
theorem K_iso {α β : Type} {d : Kd α} {f : β → α} {y : β} {cs : List Value} (h : d.K w (f y) cs) : (Kd.iso d f).K w y cs := h
theorem list2 {α : Type} {cs : List α} (h : cs.length = 2) : ∃ a b, cs = [a, b] := by
  match cs, h with
  | [a, b], _ => exact ⟨a, b, rfl⟩
theorem list3 {α : Type} {cs : List α} (h : cs.length = 3) : ∃ a b c, cs = [a, b, c] := by
  match cs, h with
  | [a, b, c], _ => exact ⟨a, b, c, rfl⟩
theorem opens_edge : Opens enc Try.prog w 51 Kd.edge (fun _ => True) := by
  intro fuel cs x h hw
  obtain ⟨hl, hf⟩ := open_field Try.underlying51 h hw
  obtain ⟨a, ha, _⟩ := hf 0 3 0 rfl _ _ (opens_int Try.underlying3)
  obtain ⟨b, hb, _⟩ := hf 1 3 1 rfl _ _ (opens_int Try.underlying3)
  have h2 : Try.prog.cellsOf 51 = 2 := by kernel_rfl
  have h1 : Try.prog.cellsOf 3 = 1 := by kernel_rfl
  rw [h2] at hl
  obtain ⟨c0, c1, rfl⟩ := list2 hl
  rw [h1] at ha hb
  exact ⟨⟨a, b⟩, K_iso ⟨[c0], [c1], rfl, ha, hb⟩, trivial⟩
def CBd (c : Cut) : Prop := c.free.length ≤ reachBytes ∧ c.clubs.length ≤ reachBytes ∧ c.games.length ≤ reachBytes
theorem opens_cut : Opens enc Try.prog w 43 Kd.cut CBd := by
  intro fuel cs x h hw
  obtain ⟨hl, hf⟩ := open_field Try.underlying43 h hw
  obtain ⟨a, ha, a1⟩ := hf 0 22 0 rfl _ _ opens_ints
  obtain ⟨b, hb, b1⟩ := hf 1 22 1 rfl _ _ opens_ints
  obtain ⟨c, hc, c1⟩ := hf 2 22 2 rfl _ _ opens_ints
  have h2 : Try.prog.cellsOf 43 = 3 := by kernel_rfl
  have h1 : Try.prog.cellsOf 22 = 1 := by kernel_rfl
  rw [h2] at hl
  obtain ⟨c0, c1', c2, rfl⟩ := list3 hl
  rw [h1] at ha hb hc
  exact ⟨⟨a, b, c⟩, K_iso ⟨[c0], [c1', c2], rfl, ha, [c1'], [c2], rfl, hb, hc⟩, a1.1, b1.1, c1.1⟩
theorem cells7 {cs : Array Value} (h : cs.size = 7) : ∃ x0 x1 x2 x3 x4 x5 x6, cs = #[x0, x1, x2, x3, x4, x5, x6] := by
  obtain ⟨l⟩ := cs
  match l, h with
  | [x0, x1, x2, x3, x4, x5, x6], _ => exact ⟨x0, x1, x2, x3, x4, x5, x6, rfl⟩
theorem cells4 {cs : Array Value} (h : cs.size = 4) : ∃ x0 x1 x2 x3, cs = #[x0, x1, x2, x3] := by
  obtain ⟨l⟩ := cs
  match l, h with
  | [x0, x1, x2, x3], _ => exact ⟨x0, x1, x2, x3, rfl⟩
theorem cells3 {cs : Array Value} (h : cs.size = 3) : ∃ x0 x1 x2, cs = #[x0, x1, x2] := by
  obtain ⟨l⟩ := cs
  match l, h with
  | [x0, x1, x2], _ => exact ⟨x0, x1, x2, rfl⟩

variable {base : Nat} {v : Value} {d : DataW H} {ps : List MemPlace}
set_option maxRecDepth 100000 in
theorem open_race (hv : Value.okWide Try.prog w Reach.any base 25 v) (h : DataW.Trod enc Try.prog w 0 (fun _ => true) true 25 v d ps) (hw : (d.weights Try.prog 25).all (· ≤ reachBytes) = true) : ∃ m : RaceM, v = m.v ∧ RaceIn w m := by
  obtain ⟨cs, rfl, hsz⟩ := okWide_struct Try.underlying25 hv
  obtain ⟨fuel, hf⟩ := h
  have h2 : Try.prog.cellsOf 25 = 7 := by kernel_rfl
  have h1 : Try.prog.cellsOf 3 = 1 := by kernel_rfl
  have h3 : Try.prog.cellsOf 22 = 1 := by kernel_rfl
  have h4 : Try.prog.cellsOf 23 = 1 := by kernel_rfl
  obtain ⟨x0, x1, x2, x3, x4, x5, x6, rfl⟩ := cells7 (hsz.trans h2)
  obtain ⟨_, hf⟩ := open_field Try.underlying25 hf hw
  obtain ⟨y0, k0, _⟩ := hf 0 3 0 rfl _ _ (opens_int Try.underlying3)
  obtain ⟨y1, k1, _⟩ := hf 1 3 1 rfl _ _ (opens_int Try.underlying3)
  obtain ⟨y2, k2, _⟩ := hf 2 22 2 rfl _ _ opens_ints
  obtain ⟨y3, k3, _⟩ := hf 3 22 3 rfl _ _ opens_ints
  obtain ⟨y4, k4, _⟩ := hf 4 23 4 rfl _ _ (opens_slice Try.underlying23 (by kernel_rfl) (by decide) (of_decide_eq_true (by kernel_rfl)) opens_edge)
  obtain ⟨y5, k5, _⟩ := hf 5 3 5 rfl _ _ (opens_int Try.underlying3)
  obtain ⟨y6, k6, _⟩ := hf 6 3 6 rfl _ _ (opens_int Try.underlying3)
  rw [h1] at k0 k1 k5 k6
  rw [h3] at k2 k3
  rw [h4] at k4
  obtain ⟨e0, w0⟩ := k0
  obtain ⟨e1, w1⟩ := k1
  obtain ⟨A2, c2, e2, _, r2⟩ := k2
  obtain ⟨A3, c3, e3, _, r3⟩ := k3
  obtain ⟨A4, c4, e4, _, r4⟩ := k4
  obtain ⟨e5, w5⟩ := k5
  obtain ⟨e6, w6⟩ := k6
  simp [Value.cells] at e0 e1 e2 e3 e4 e5 e6
  subst e0 e1 e2 e3 e4 e5 e6
  exact ⟨⟨⟨y0, y1, y2, y3, y4, y5, y6⟩, A2, c2, A3, c3, A4, c4⟩, rfl, ⟨r2, r3, r4, w0, w1, w5, w6⟩⟩
set_option maxRecDepth 100000 in
theorem open_cut (hv : Value.okWide Try.prog w Reach.any base 43 v) (h : DataW.Trod enc Try.prog w 0 (fun _ => true) true 43 v d ps) (hw : (d.weights Try.prog 43).all (· ≤ reachBytes) = true) : ∃ k : CutM, v = k.v ∧ CutIn w k ∧ CBound k := by
  obtain ⟨cs, rfl, hsz⟩ := okWide_struct Try.underlying43 hv
  obtain ⟨fuel, hf⟩ := h
  have h2 : Try.prog.cellsOf 43 = 3 := by kernel_rfl
  have h3 : Try.prog.cellsOf 22 = 1 := by kernel_rfl
  obtain ⟨x0, x1, x2, rfl⟩ := cells3 (hsz.trans h2)
  obtain ⟨_, hf⟩ := open_field Try.underlying43 hf hw
  obtain ⟨y0, k0, b0⟩ := hf 0 22 0 rfl _ _ opens_ints
  obtain ⟨y1, k1, b1⟩ := hf 1 22 1 rfl _ _ opens_ints
  obtain ⟨y2, k2, b2⟩ := hf 2 22 2 rfl _ _ opens_ints
  rw [h3] at k0 k1 k2
  obtain ⟨A0, c0, e0, l0, r0⟩ := k0
  obtain ⟨A1, c1, e1, l1, r1⟩ := k1
  obtain ⟨A2, c2, e2, l2, r2⟩ := k2
  simp [Value.cells] at e0 e1 e2
  subst e0 e1 e2
  have hr : reachBytes ≤ 1125899906842624 := by decide
  exact ⟨⟨⟨y0, y1, y2⟩, A0, c0, A1, c1, A2, c2⟩, rfl, ⟨r0, r1, r2⟩, ⟨⟨l0, Nat.le_trans b0.1 hr⟩, ⟨l1, Nat.le_trans b1.1 hr⟩, ⟨l2, Nat.le_trans b2.1 hr⟩⟩⟩
set_option maxRecDepth 100000 in
theorem open_verdict (hv : Value.okWide Try.prog w Reach.any base 28 v) (h : DataW.Trod enc Try.prog w 0 (fun _ => true) true 28 v d ps) (hw : (d.weights Try.prog 28).all (· ≤ reachBytes) = true) : ∃ k : VerdictM, v = k.val ∧ VerdictIn w k ∧ VBound k.v ∧ k.v.cuts.length ≤ k.c3 := by
  obtain ⟨cs, rfl, hsz⟩ := okWide_struct Try.underlying28 hv
  obtain ⟨fuel, hf⟩ := h
  have h2 : Try.prog.cellsOf 28 = 4 := by kernel_rfl
  have h1 : Try.prog.cellsOf 3 = 1 := by kernel_rfl
  have h3 : Try.prog.cellsOf 22 = 1 := by kernel_rfl
  have h4 : Try.prog.cellsOf 26 = 1 := by kernel_rfl
  obtain ⟨x0, x1, x2, x3, rfl⟩ := cells4 (hsz.trans h2)
  obtain ⟨_, hf⟩ := open_field Try.underlying28 hf hw
  obtain ⟨y0, k0, _⟩ := hf 0 3 0 rfl _ _ (opens_int Try.underlying3)
  obtain ⟨y1, k1, b1⟩ := hf 1 22 1 rfl _ _ opens_ints
  obtain ⟨y2, k2, b2⟩ := hf 2 22 2 rfl _ _ opens_ints
  obtain ⟨y3, k3, b3⟩ := hf 3 26 3 rfl _ _ (opens_slice Try.underlying26 (by kernel_rfl) (by decide) (of_decide_eq_true (by kernel_rfl)) opens_cut)
  rw [h1] at k0
  rw [h3] at k1 k2
  rw [h4] at k3
  obtain ⟨e0, w0⟩ := k0
  obtain ⟨A1, c1, e1, l1, r1⟩ := k1
  obtain ⟨A2, c2, e2, l2, r2⟩ := k2
  obtain ⟨A3, c3, e3, l3, r3⟩ := k3
  simp [Value.cells] at e0 e1 e2 e3
  subst e0 e1 e2 e3
  have hr : reachBytes ≤ 1125899906842624 := by decide
  refine ⟨⟨⟨y0, y1, y2, y3⟩, A1, c1, A2, c2, A3, c3⟩, rfl, ⟨r1, r2, r3, w0⟩, ⟨Nat.le_trans b1.1 hr, Nat.le_trans b2.1 hr, Nat.le_trans b3.1 hr, fun j hj => ?_⟩, l3⟩
  have := b3.2 (rdC y3 j) (List.mem_of_getElem? (rdC_get hj))
  exact ⟨Nat.le_trans this.1 hr, Nat.le_trans this.2.1 hr, Nat.le_trans this.2.2 hr⟩
set_option maxRecDepth 100000 in
theorem open_bytes (hv : Value.okWide Try.prog w Reach.any base 35 v) (h : DataW.Trod enc Try.prog w 0 (fun _ => true) true 35 v d ps) (hw : (d.weights Try.prog 35).all (· ≤ reachBytes) = true) : ∃ (A : Option Addr) (c : Nat) (xs : List Int), v = .slice A xs.length c ∧ Row (Kd.int .u8) w A xs := by
  obtain ⟨fuel, hf⟩ := h
  obtain ⟨y, ⟨A, c, e, _, r⟩, _⟩ := opens_bytes fuel _ _ hf hw
  obtain ⟨a, len, cap, rfl⟩ := okWide_slice Try.underlying35 hv
  simp [Value.cells] at e
  obtain ⟨rfl, rfl, rfl⟩ := e
  exact ⟨_, _, y, rfl, r⟩
end
end Go.Proofs.Ytfmekjpmjefpmaa

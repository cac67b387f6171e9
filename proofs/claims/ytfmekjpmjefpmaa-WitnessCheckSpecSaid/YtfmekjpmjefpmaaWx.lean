/- The law's sane, walked. -/
import Derived.Test.YtfmekjpmjefpmaaSane
set_option linter.unusedSimpArgs false
set_option linter.unusedVariables false
namespace Go.Proofs.Ytfmekjpmjefpmaa
open Go.RowKit

theorem Row.of_box {k : IntKind} {w : World} {b : Nat} {xs : List Int} (h : Box w b (xs.map (Value.int k)).toArray) (hx : ∀ x ∈ xs, (Lit.int k x).wf = true) (hl : xs.length ≤ 1000000) : Row (Kd.int k) w (some ⟨b, 0, none⟩) xs := by
  refine ⟨by omega, fun _ => ⟨b, 0, rfl, h.lt, fun i x hi => ⟨[.int k x], ⟨rfl, hx x (List.mem_of_getElem? hi)⟩, fun j u hu => ?_⟩⟩⟩
  have hj : j = 0 := by
    rcases Nat.eq_zero_or_pos j with h' | h'
    · exact h'
    · rw [List.getElem?_eq_none (by simp; omega)] at hu; cases hu
  subst hj
  simp at hu
  subst hu
  have := h.cell i
  simp only [Kd.int, Kd.one1, Nat.zero_add, Nat.add_zero, Nat.mul_one]
  rw [this, List.getElem?_toArray, List.getElem?_map, hi]
  rfl
theorem Row.of_box_edge {w : World} {b : Nat} {x : Edge} (h : Box w b #[.int .i64 x.l, .int .i64 x.r]) (h1 : (Lit.int .i64 x.l).wf = true) (h2 : (Lit.int .i64 x.r).wf = true) : Row Kd.edge w (some ⟨b, 0, none⟩) [x] := by
  refine ⟨by simp, fun _ => ⟨b, 0, rfl, h.lt, fun i y hi => ?_⟩⟩
  have hi0 : i = 0 := by
    rcases Nat.eq_zero_or_pos i with h' | h'
    · exact h'
    · rw [List.getElem?_eq_none (by simp; omega)] at hi; cases hi
  subst hi0
  simp at hi
  subst hi
  refine ⟨[.int .i64 x.l, .int .i64 x.r], ⟨[.int .i64 x.l], [.int .i64 x.r], rfl, ⟨rfl, h1⟩, ⟨rfl, h2⟩⟩, fun j u hu => ?_⟩
  have := h.cell j
  rw [Nat.zero_mul, Nat.zero_add, Nat.zero_add, this]
  simpa using hu
theorem Row.empty {α : Type} (d : Kd α) (w : World) : Row d w none [] := ⟨by simp, fun h => absurd rfl h⟩
theorem wfs (l : List Int) (h : l.all (fun x => decide (-9 ≤ x) && decide (x ≤ 99)) = true) : ∀ x ∈ l, (Lit.int .i64 x).wf = true := fun x hx => by
  have := List.all_eq_true.1 h x hx
  simp only [Bool.and_eq_true, decide_eq_true_eq] at this
  exact WalkArith.wf_i64 (by omega)

set_option maxHeartbeats 8000000 in
set_option maxRecDepth 100000 in
theorem sane_any (w : World) : Calls Try.prog 8 #[] w fun e w' => e = .returned (.bool true) ∧ Below w.heap.size w w' := by
  go_enter Try.func8, Try.ntmps8
  go_upto_region 8 with (fail)
  generalize hW : (World.alloc _ (Obj.cells _ 43)) = W
  have hB : Below w.heap.size w W := by
    rw [← hW]
    repeat (first | exact balloc0 _ _ | refine balloc ?_ _)
  have X0 : Box W (w.heap.size) #[.int .i64 3, .int .i64 5] := ⟨by rw [← hW]; simp <;> omega, fun j => by rw [← hW]; simp [go_sem], fun j => by rw [← hW]; simp [go_sem]⟩
  have X1 : Box W (w.heap.size + 1) #[.int .i64 4, .int .i64 4] := ⟨by rw [← hW]; simp <;> omega, fun j => by rw [← hW]; simp [go_sem], fun j => by rw [← hW]; simp [go_sem]⟩
  have X2 : Box W (w.heap.size + 1 + 1) #[.int .i64 2, .int .i64 1, .slice (some ⟨w.heap.size, 0, none⟩) 2 2, .slice (some ⟨w.heap.size + 1, 0, none⟩) 2 2, .slice none 0 0, .int .i64 0, .int .i64 1] := ⟨by rw [← hW]; simp <;> omega, fun j => by rw [← hW]; simp [go_sem], fun j => by rw [← hW]; simp [go_sem]⟩
  have X3 : Box W (w.heap.size + 1 + 1 + 1) #[.int .i64 2, .int .i64 1, .slice (some ⟨w.heap.size, 0, none⟩) 2 2, .slice (some ⟨w.heap.size + 1, 0, none⟩) 2 2, .slice none 0 0, .int .i64 0, .int .i64 2] := ⟨by rw [← hW]; simp <;> omega, fun j => by rw [← hW]; simp [go_sem], fun j => by rw [← hW]; simp [go_sem]⟩
  have X4 : Box W (w.heap.size + 1 + 1 + 1 + 1) #[.int .i64 1, .int .i64 2, .int .i64 3] := ⟨by rw [← hW]; simp <;> omega, fun j => by rw [← hW]; simp [go_sem], fun j => by rw [← hW]; simp [go_sem]⟩
  have X5 : Box W (w.heap.size + 1 + 1 + 1 + 1 + 1) #[.int .i64 10, .int .i64 4, .int .i64 0] := ⟨by rw [← hW]; simp <;> omega, fun j => by rw [← hW]; simp [go_sem], fun j => by rw [← hW]; simp [go_sem]⟩
  have X6 : Box W (w.heap.size + 1 + 1 + 1 + 1 + 1 + 1) #[.int .i64 1, .int .i64 2] := ⟨by rw [← hW]; simp <;> omega, fun j => by rw [← hW]; simp [go_sem], fun j => by rw [← hW]; simp [go_sem]⟩
  have X7 : Box W (w.heap.size + 1 + 1 + 1 + 1 + 1 + 1 + 1) #[.int .i64 2, .int .i64 1, .slice (some ⟨w.heap.size + 1 + 1 + 1 + 1, 0, none⟩) 3 3, .slice (some ⟨w.heap.size + 1 + 1 + 1 + 1 + 1, 0, none⟩) 3 3, .slice (some ⟨w.heap.size + 1 + 1 + 1 + 1 + 1 + 1, 0, none⟩) 1 1, .int .i64 0, .int .i64 1] := ⟨by rw [← hW]; simp <;> omega, fun j => by rw [← hW]; simp [go_sem], fun j => by rw [← hW]; simp [go_sem]⟩
  have X8 : Box W (w.heap.size + 1 + 1 + 1 + 1 + 1 + 1 + 1 + 1) #[.int .i64 3, .int .i64 1, .slice (some ⟨w.heap.size + 1 + 1 + 1 + 1, 0, none⟩) 3 3, .slice (some ⟨w.heap.size + 1 + 1 + 1 + 1 + 1, 0, none⟩) 3 3, .slice (some ⟨w.heap.size + 1 + 1 + 1 + 1 + 1 + 1, 0, none⟩) 1 1, .int .i64 0, .int .i64 1] := ⟨by rw [← hW]; simp <;> omega, fun j => by rw [← hW]; simp [go_sem], fun j => by rw [← hW]; simp [go_sem]⟩
  have X9 : Box W (w.heap.size + 1 + 1 + 1 + 1 + 1 + 1 + 1 + 1 + 1) #[.int .i64 1] := ⟨by rw [← hW]; simp <;> omega, fun j => by rw [← hW]; simp [go_sem], fun j => by rw [← hW]; simp [go_sem]⟩
  have X10 : Box W (w.heap.size + 1 + 1 + 1 + 1 + 1 + 1 + 1 + 1 + 1 + 1) #[.int .i64 1] := ⟨by rw [← hW]; simp <;> omega, fun j => by rw [← hW]; simp [go_sem], fun j => by rw [← hW]; simp [go_sem]⟩
  have X11 : Box W (w.heap.size + 1 + 1 + 1 + 1 + 1 + 1 + 1 + 1 + 1 + 1 + 1) #[.int .i64 0] := ⟨by rw [← hW]; simp <;> omega, fun j => by rw [← hW]; simp [go_sem], fun j => by rw [← hW]; simp [go_sem]⟩
  have X12 : Box W (w.heap.size + 1 + 1 + 1 + 1 + 1 + 1 + 1 + 1 + 1 + 1 + 1 + 1) #[.slice (some ⟨w.heap.size + 1 + 1 + 1 + 1 + 1 + 1 + 1 + 1 + 1, 0, none⟩) 1 1, .slice (some ⟨w.heap.size + 1 + 1 + 1 + 1 + 1 + 1 + 1 + 1 + 1 + 1, 0, none⟩) 1 1, .slice (some ⟨w.heap.size + 1 + 1 + 1 + 1 + 1 + 1 + 1 + 1 + 1 + 1 + 1, 0, none⟩) 1 1] := ⟨by rw [← hW]; simp, fun j => by rw [← hW]; simp [go_sem], fun j => by rw [← hW]; simp [go_sem]⟩
  clear hW
  have r0 : Row (Kd.int .i64) W (some ⟨w.heap.size, 0, none⟩) [3, 5] := Row.of_box X0 (wfs _ rfl) (by simp)
  have r1 : Row (Kd.int .i64) W (some ⟨w.heap.size + 1, 0, none⟩) [4, 4] := Row.of_box X1 (wfs _ rfl) (by simp)
  have r4 : Row (Kd.int .i64) W (some ⟨w.heap.size + 1 + 1 + 1 + 1, 0, none⟩) [1, 2, 3] := Row.of_box X4 (wfs _ rfl) (by simp)
  have r5 : Row (Kd.int .i64) W (some ⟨w.heap.size + 1 + 1 + 1 + 1 + 1, 0, none⟩) [10, 4, 0] := Row.of_box X5 (wfs _ rfl) (by simp)
  have r9 : Row (Kd.int .i64) W (some ⟨w.heap.size + 1 + 1 + 1 + 1 + 1 + 1 + 1 + 1 + 1, 0, none⟩) [1] := Row.of_box X9 (wfs _ rfl) (by simp)
  have r10 : Row (Kd.int .i64) W (some ⟨w.heap.size + 1 + 1 + 1 + 1 + 1 + 1 + 1 + 1 + 1 + 1, 0, none⟩) [1] := Row.of_box X10 (wfs _ rfl) (by simp)
  have r11 : Row (Kd.int .i64) W (some ⟨w.heap.size + 1 + 1 + 1 + 1 + 1 + 1 + 1 + 1 + 1 + 1 + 1, 0, none⟩) [0] := Row.of_box X11 (wfs _ rfl) (by simp)
  have r6 : Row Kd.edge W (some ⟨w.heap.size + 1 + 1 + 1 + 1 + 1 + 1, 0, none⟩) [⟨1, 2⟩] := Row.of_box_edge X6 (WalkArith.wf_i64 (by decide)) (WalkArith.wf_i64 (by decide))
  have RE : RaceIn W ⟨qEqual, (some ⟨w.heap.size, 0, none⟩), 2, (some ⟨w.heap.size + 1, 0, none⟩), 2, none, 0⟩ := ⟨r0, r1, (Row.empty _ _), rfl, rfl, rfl, rfl⟩
  have RS : RaceIn W ⟨qSecond, (some ⟨w.heap.size, 0, none⟩), 2, (some ⟨w.heap.size + 1, 0, none⟩), 2, none, 0⟩ := ⟨r0, r1, (Row.empty _ _), rfl, rfl, rfl, rfl⟩
  have RA : RaceIn W ⟨qAhead, (some ⟨w.heap.size + 1 + 1 + 1 + 1, 0, none⟩), 3, (some ⟨w.heap.size + 1 + 1 + 1 + 1 + 1, 0, none⟩), 3, (some ⟨w.heap.size + 1 + 1 + 1 + 1 + 1 + 1, 0, none⟩), 1⟩ := ⟨r4, r5, r6, rfl, rfl, rfl, rfl⟩
  have RT : RaceIn W ⟨qThree, (some ⟨w.heap.size + 1 + 1 + 1 + 1, 0, none⟩), 3, (some ⟨w.heap.size + 1 + 1 + 1 + 1 + 1, 0, none⟩), 3, (some ⟨w.heap.size + 1 + 1 + 1 + 1 + 1 + 1, 0, none⟩), 1⟩ := ⟨r4, r5, r6, rfl, rfl, rfl, rfl⟩
  have RZ : RaceIn W ⟨qZero, none, 0, none, 0, none, 0⟩ := ⟨Row.empty _ _, Row.empty _ _, Row.empty _ _, rfl, rfl, rfl, rfl⟩
  have RC : CutIn W ⟨cOne, (some ⟨w.heap.size + 1 + 1 + 1 + 1 + 1 + 1 + 1 + 1 + 1, 0, none⟩), 1, (some ⟨w.heap.size + 1 + 1 + 1 + 1 + 1 + 1 + 1 + 1 + 1 + 1, 0, none⟩), 1, (some ⟨w.heap.size + 1 + 1 + 1 + 1 + 1 + 1 + 1 + 1 + 1 + 1 + 1, 0, none⟩), 1⟩ := ⟨r9, r10, r11⟩
  have RV0 : ∀ W', VerdictIn W' ⟨⟨0, [], [], []⟩, none, 0, none, 0, none, 0⟩ := fun W' => ⟨Row.empty _ _, Row.empty _ _, Row.empty _ _, rfl⟩
  have RV1 : ∀ W', VerdictIn W' ⟨⟨1, [], [], []⟩, none, 0, none, 0, none, 0⟩ := fun W' => ⟨Row.empty _ _, Row.empty _ _, Row.empty _ _, rfl⟩
  have c1 : ∀ w', Below W.heap.size W w' → Calls Try.prog 16 #[.agg #[.int .i64 2, .int .i64 1, .slice (some ⟨w.heap.size, 0, none⟩) 2 2, .slice (some ⟨w.heap.size + 1, 0, none⟩) 2 2, .slice none 0 0, .int .i64 0, .int .i64 1], .slice none 0 0] w' fun e w'' => e = .returned (.int .i64 0) ∧ Below w'.heap.size w' w'' := fun w' hw => by
    have h := reached_any ⟨qEqual, (some ⟨w.heap.size, 0, none⟩), 2, (some ⟨w.heap.size + 1, 0, none⟩), 2, none, 0⟩ none 0 [] w' (RE.below hw) (Row.empty _ _)
    rw [e1] at h
    exact h
  have c2 : ∀ w', Below W.heap.size W w' → Calls Try.prog 17 #[.agg #[.int .i64 2, .int .i64 1, .slice (some ⟨w.heap.size, 0, none⟩) 2 2, .slice (some ⟨w.heap.size + 1, 0, none⟩) 2 2, .slice none 0 0, .int .i64 0, .int .i64 1], .slice none 0 0] w' fun e w'' => e = .returned (.int .i64 0) ∧ Below w'.heap.size w' w'' := fun w' hw => by
    have h := missed_any ⟨qEqual, (some ⟨w.heap.size, 0, none⟩), 2, (some ⟨w.heap.size + 1, 0, none⟩), 2, none, 0⟩ none 0 [] w' (RE.below hw) (Row.empty _ _)
    rw [e2] at h
    exact h
  have c3 : ∀ w', Below W.heap.size W w' → Calls Try.prog 16 #[.agg #[.int .i64 2, .int .i64 1, .slice (some ⟨w.heap.size, 0, none⟩) 2 2, .slice (some ⟨w.heap.size + 1, 0, none⟩) 2 2, .slice none 0 0, .int .i64 0, .int .i64 2], .slice none 0 0] w' fun e w'' => e = .returned (.int .i64 0) ∧ Below w'.heap.size w' w'' := fun w' hw => by
    have h := reached_any ⟨qSecond, (some ⟨w.heap.size, 0, none⟩), 2, (some ⟨w.heap.size + 1, 0, none⟩), 2, none, 0⟩ none 0 [] w' (RS.below hw) (Row.empty _ _)
    rw [e3] at h
    exact h
  have c4 : ∀ w', Below W.heap.size W w' → Calls Try.prog 17 #[.agg #[.int .i64 2, .int .i64 1, .slice (some ⟨w.heap.size, 0, none⟩) 2 2, .slice (some ⟨w.heap.size + 1, 0, none⟩) 2 2, .slice none 0 0, .int .i64 0, .int .i64 2], .slice none 0 0] w' fun e w'' => e = .returned (.int .i64 290) ∧ Below w'.heap.size w' w'' := fun w' hw => by
    have h := missed_any ⟨qSecond, (some ⟨w.heap.size, 0, none⟩), 2, (some ⟨w.heap.size + 1, 0, none⟩), 2, none, 0⟩ none 0 [] w' (RS.below hw) (Row.empty _ _)
    rw [e4] at h
    exact h
  have c5 : ∀ w', Below W.heap.size W w' → Calls Try.prog 16 #[.agg #[.int .i64 2, .int .i64 1, .slice (some ⟨w.heap.size + 1 + 1 + 1 + 1, 0, none⟩) 3 3, .slice (some ⟨w.heap.size + 1 + 1 + 1 + 1 + 1, 0, none⟩) 3 3, .slice (some ⟨w.heap.size + 1 + 1 + 1 + 1 + 1 + 1, 0, none⟩) 1 1, .int .i64 0, .int .i64 1], .slice none 0 0] w' fun e w'' => e = .returned (.int .i64 1) ∧ Below w'.heap.size w' w'' := fun w' hw => by
    have h := reached_any ⟨qAhead, (some ⟨w.heap.size + 1 + 1 + 1 + 1, 0, none⟩), 3, (some ⟨w.heap.size + 1 + 1 + 1 + 1 + 1, 0, none⟩), 3, (some ⟨w.heap.size + 1 + 1 + 1 + 1 + 1 + 1, 0, none⟩), 1⟩ none 0 [] w' (RA.below hw) (Row.empty _ _)
    rw [e5] at h
    exact h
  have c6 : ∀ w', Below W.heap.size W w' → Calls Try.prog 18 #[.agg #[.int .i64 2, .int .i64 1, .slice (some ⟨w.heap.size + 1 + 1 + 1 + 1, 0, none⟩) 3 3, .slice (some ⟨w.heap.size + 1 + 1 + 1 + 1 + 1, 0, none⟩) 3 3, .slice (some ⟨w.heap.size + 1 + 1 + 1 + 1 + 1 + 1, 0, none⟩) 1 1, .int .i64 0, .int .i64 1], .bool true, .agg #[.slice (some ⟨w.heap.size + 1 + 1 + 1 + 1 + 1 + 1 + 1 + 1 + 1, 0, none⟩) 1 1, .slice (some ⟨w.heap.size + 1 + 1 + 1 + 1 + 1 + 1 + 1 + 1 + 1 + 1, 0, none⟩) 1 1, .slice (some ⟨w.heap.size + 1 + 1 + 1 + 1 + 1 + 1 + 1 + 1 + 1 + 1 + 1, 0, none⟩) 1 1]] w' fun e w'' => e = .returned (.int .i64 0) ∧ Below w'.heap.size w' w'' := fun w' hw => by
    have h := cut_any ⟨qAhead, (some ⟨w.heap.size + 1 + 1 + 1 + 1, 0, none⟩), 3, (some ⟨w.heap.size + 1 + 1 + 1 + 1 + 1, 0, none⟩), 3, (some ⟨w.heap.size + 1 + 1 + 1 + 1 + 1 + 1, 0, none⟩), 1⟩ true ⟨cOne, (some ⟨w.heap.size + 1 + 1 + 1 + 1 + 1 + 1 + 1 + 1 + 1, 0, none⟩), 1, (some ⟨w.heap.size + 1 + 1 + 1 + 1 + 1 + 1 + 1 + 1 + 1 + 1, 0, none⟩), 1, (some ⟨w.heap.size + 1 + 1 + 1 + 1 + 1 + 1 + 1 + 1 + 1 + 1 + 1, 0, none⟩), 1⟩ w' (RA.below hw) (RC.below hw)
    rw [e6] at h
    exact h
  have c7 : ∀ w', Below W.heap.size W w' → Calls Try.prog 18 #[.agg #[.int .i64 3, .int .i64 1, .slice (some ⟨w.heap.size + 1 + 1 + 1 + 1, 0, none⟩) 3 3, .slice (some ⟨w.heap.size + 1 + 1 + 1 + 1 + 1, 0, none⟩) 3 3, .slice (some ⟨w.heap.size + 1 + 1 + 1 + 1 + 1 + 1, 0, none⟩) 1 1, .int .i64 0, .int .i64 1], .bool true, .agg #[.slice (some ⟨w.heap.size + 1 + 1 + 1 + 1 + 1 + 1 + 1 + 1 + 1, 0, none⟩) 1 1, .slice (some ⟨w.heap.size + 1 + 1 + 1 + 1 + 1 + 1 + 1 + 1 + 1 + 1, 0, none⟩) 1 1, .slice (some ⟨w.heap.size + 1 + 1 + 1 + 1 + 1 + 1 + 1 + 1 + 1 + 1 + 1, 0, none⟩) 1 1]] w' fun e w'' => e = .returned (.int .i64 290) ∧ Below w'.heap.size w' w'' := fun w' hw => by
    have h := cut_any ⟨qThree, (some ⟨w.heap.size + 1 + 1 + 1 + 1, 0, none⟩), 3, (some ⟨w.heap.size + 1 + 1 + 1 + 1 + 1, 0, none⟩), 3, (some ⟨w.heap.size + 1 + 1 + 1 + 1 + 1 + 1, 0, none⟩), 1⟩ true ⟨cOne, (some ⟨w.heap.size + 1 + 1 + 1 + 1 + 1 + 1 + 1 + 1 + 1, 0, none⟩), 1, (some ⟨w.heap.size + 1 + 1 + 1 + 1 + 1 + 1 + 1 + 1 + 1 + 1, 0, none⟩), 1, (some ⟨w.heap.size + 1 + 1 + 1 + 1 + 1 + 1 + 1 + 1 + 1 + 1 + 1, 0, none⟩), 1⟩ w' (RT.below hw) (RC.below hw)
    rw [e7] at h
    exact h
  have c8 : ∀ w', Below W.heap.size W w' → Calls Try.prog 11 #[.agg #[.int .i64 0, .int .i64 0, .slice none 0 0, .slice none 0 0, .slice none 0 0, .int .i64 0, .int .i64 0], .agg #[.int .i64 0, .slice none 0 0, .slice none 0 0, .slice none 0 0]] w' fun e w'' => e = .returned (.int .i64 280) ∧ Below w'.heap.size w' w'' := fun w' hw => by
    have h := check2_any ⟨qZero, none, 0, none, 0, none, 0⟩ ⟨⟨0, [], [], []⟩, none, 0, none, 0, none, 0⟩ w' (RZ.below hw) (RV0 w') ⟨by simp, by simp, by simp, by simp⟩
    rw [e8] at h
    exact h
  have c9 : ∀ w', Below W.heap.size W w' → Calls Try.prog 11 #[.agg #[.int .i64 2, .int .i64 1, .slice (some ⟨w.heap.size + 1 + 1 + 1 + 1, 0, none⟩) 3 3, .slice (some ⟨w.heap.size + 1 + 1 + 1 + 1 + 1, 0, none⟩) 3 3, .slice (some ⟨w.heap.size + 1 + 1 + 1 + 1 + 1 + 1, 0, none⟩) 1 1, .int .i64 0, .int .i64 1], .agg #[.int .i64 0, .slice none 0 0, .slice none 0 0, .slice none 0 0]] w' fun e w'' => e = .returned (.int .i64 290) ∧ Below w'.heap.size w' w'' := fun w' hw => by
    have h := check2_any ⟨qAhead, (some ⟨w.heap.size + 1 + 1 + 1 + 1, 0, none⟩), 3, (some ⟨w.heap.size + 1 + 1 + 1 + 1 + 1, 0, none⟩), 3, (some ⟨w.heap.size + 1 + 1 + 1 + 1 + 1 + 1, 0, none⟩), 1⟩ ⟨⟨0, [], [], []⟩, none, 0, none, 0, none, 0⟩ w' (RA.below hw) (RV0 w') ⟨by simp, by simp, by simp, by simp⟩
    rw [e9] at h
    exact h
  have c10 : ∀ w', Below W.heap.size W w' → Calls Try.prog 11 #[.agg #[.int .i64 2, .int .i64 1, .slice (some ⟨w.heap.size, 0, none⟩) 2 2, .slice (some ⟨w.heap.size + 1, 0, none⟩) 2 2, .slice none 0 0, .int .i64 0, .int .i64 2], .agg #[.int .i64 1, .slice none 0 0, .slice none 0 0, .slice none 0 0]] w' fun e w'' => e = .returned (.int .i64 0) ∧ Below w'.heap.size w' w'' := fun w' hw => by
    have h := check2_any ⟨qSecond, (some ⟨w.heap.size, 0, none⟩), 2, (some ⟨w.heap.size + 1, 0, none⟩), 2, none, 0⟩ ⟨⟨1, [], [], []⟩, none, 0, none, 0, none, 0⟩ w' (RS.below hw) (RV1 w') ⟨by simp, by simp, by simp, by simp⟩
    rw [e10] at h
    exact h
  clear r0 r1 r4 r5 r9 r10 r11 r6 RE RS RA RT RZ RC RV0 RV1 X0 X1 X4 X5 X6 X9 X10 X11
  replace c1 := Lib.hid c1
  replace c2 := Lib.hid c2
  replace c3 := Lib.hid c3
  replace c4 := Lib.hid c4
  replace c5 := Lib.hid c5
  replace c6 := Lib.hid c6
  replace c7 := Lib.hid c7
  replace c8 := Lib.hid c8
  replace c9 := Lib.hid c9
  replace c10 := Lib.hid c10
  obtain ⟨l2, k2, f2⟩ := id X2
  obtain ⟨l3, k3, f3⟩ := id X3
  obtain ⟨l7, k7, f7⟩ := id X7
  obtain ⟨l8, k8, f8⟩ := id X8
  obtain ⟨l12, k12, f12⟩ := id X12
  repeat (first | (with_reducible refine Seg.plainB ?_) | go_step)
  repeat (first
    | (refine' Seg.pick_or (b := _) (x := _) (c := _) (y := _) rfl rfl rfl rfl ?_; simp only [Act.put, List.setIfInBounds_toArray, List.set_cons_zero, List.set_cons_succ])
    | (refine' Seg.pick_and (b := _) (x := _) (c := _) (y := _) rfl rfl rfl rfl ?_; simp only [Act.put, List.setIfInBounds_toArray, List.set_cons_zero, List.set_cons_succ])
    | (refine' Seg.val (v := _) rfl (fun w' hw => ?_) ?_; rotate_left 1; (obtain ⟨hbc, _⟩ := bcell hw; go_simp; rfl); simp only [Act.put, List.setIfInBounds_toArray, List.set_cons_zero, List.set_cons_succ])
    | (refine' Seg.skip ?_ ?_; (focus (first | (rw [Seg.wanted1 rfl rfl]; simp; done) | (rw [Seg.wanted2 rfl rfl]; simp; done))); simp only [Act.put, List.setIfInBounds_toArray, List.set_cons_zero, List.set_cons_succ])
    | (refine' Seg.pick_or_if (b := _) (x := _) (G := _) (c := _) (y := _) (by first | exact Seg.wanted1 rfl rfl | exact Seg.wanted2 rfl rfl) rfl rfl rfl ?_; simp only [Act.put, List.setIfInBounds_toArray, List.set_cons_zero, List.set_cons_succ])
    | (refine' Seg.pick_and_if (b := _) (x := _) (G := _) (c := _) (y := _) (by first | exact Seg.wanted1 rfl rfl | exact Seg.wanted2 rfl rfl) rfl rfl rfl ?_; simp only [Act.put, List.setIfInBounds_toArray, List.set_cons_zero, List.set_cons_succ])
    | (refine' Seg.val_if (v := _) (G := _) (by first | exact Seg.wanted1 rfl rfl | exact Seg.wanted2 rfl rfl) (fun hb w' hw => ?_) ?_; rotate_left 1; (simp only [Bool.and_eq_true, beq_iff_eq] at hb; obtain ⟨hbc, _⟩ := bcell hw; go_simp; rfl); simp only [Act.put, List.setIfInBounds_toArray, List.set_cons_zero, List.set_cons_succ]))
  refine' Seg.call (v := _) (f := _) (args := _) rfl (fun w' => ?_) (fun w' hw => callB hw (c1.out w' hw)) ?_
  · go_simp
  simp only [Act.put, List.setIfInBounds_toArray, List.set_cons_zero, List.set_cons_succ]
  repeat (first
    | (refine' Seg.pick_or (b := _) (x := _) (c := _) (y := _) rfl rfl rfl rfl ?_; simp only [Act.put, List.setIfInBounds_toArray, List.set_cons_zero, List.set_cons_succ])
    | (refine' Seg.pick_and (b := _) (x := _) (c := _) (y := _) rfl rfl rfl rfl ?_; simp only [Act.put, List.setIfInBounds_toArray, List.set_cons_zero, List.set_cons_succ])
    | (refine' Seg.val (v := _) rfl (fun w' hw => ?_) ?_; rotate_left 1; (obtain ⟨hbc, _⟩ := bcell hw; go_simp; rfl); simp only [Act.put, List.setIfInBounds_toArray, List.set_cons_zero, List.set_cons_succ])
    | (refine' Seg.skip ?_ ?_; (focus (first | (rw [Seg.wanted1 rfl rfl]; simp; done) | (rw [Seg.wanted2 rfl rfl]; simp; done))); simp only [Act.put, List.setIfInBounds_toArray, List.set_cons_zero, List.set_cons_succ])
    | (refine' Seg.pick_or_if (b := _) (x := _) (G := _) (c := _) (y := _) (by first | exact Seg.wanted1 rfl rfl | exact Seg.wanted2 rfl rfl) rfl rfl rfl ?_; simp only [Act.put, List.setIfInBounds_toArray, List.set_cons_zero, List.set_cons_succ])
    | (refine' Seg.pick_and_if (b := _) (x := _) (G := _) (c := _) (y := _) (by first | exact Seg.wanted1 rfl rfl | exact Seg.wanted2 rfl rfl) rfl rfl rfl ?_; simp only [Act.put, List.setIfInBounds_toArray, List.set_cons_zero, List.set_cons_succ])
    | (refine' Seg.val_if (v := _) (G := _) (by first | exact Seg.wanted1 rfl rfl | exact Seg.wanted2 rfl rfl) (fun hb w' hw => ?_) ?_; rotate_left 1; (simp only [Bool.and_eq_true, beq_iff_eq] at hb; obtain ⟨hbc, _⟩ := bcell hw; go_simp; rfl); simp only [Act.put, List.setIfInBounds_toArray, List.set_cons_zero, List.set_cons_succ]))
  refine' Seg.call_if (v := _) (G := _) (f := _) (args := _) (by first | exact Seg.wanted1 rfl rfl | exact Seg.wanted2 rfl rfl) (fun hb w' => ?_) (fun hb w' hw => callB hw (c2.out w' hw)) ?_
  · simp only [Bool.and_eq_true, beq_iff_eq] at hb
    go_simp
  simp only [Act.put, List.setIfInBounds_toArray, List.set_cons_zero, List.set_cons_succ]
  repeat (first
    | (refine' Seg.pick_or (b := _) (x := _) (c := _) (y := _) rfl rfl rfl rfl ?_; simp only [Act.put, List.setIfInBounds_toArray, List.set_cons_zero, List.set_cons_succ])
    | (refine' Seg.pick_and (b := _) (x := _) (c := _) (y := _) rfl rfl rfl rfl ?_; simp only [Act.put, List.setIfInBounds_toArray, List.set_cons_zero, List.set_cons_succ])
    | (refine' Seg.val (v := _) rfl (fun w' hw => ?_) ?_; rotate_left 1; (obtain ⟨hbc, _⟩ := bcell hw; go_simp; rfl); simp only [Act.put, List.setIfInBounds_toArray, List.set_cons_zero, List.set_cons_succ])
    | (refine' Seg.skip ?_ ?_; (focus (first | (rw [Seg.wanted1 rfl rfl]; simp; done) | (rw [Seg.wanted2 rfl rfl]; simp; done))); simp only [Act.put, List.setIfInBounds_toArray, List.set_cons_zero, List.set_cons_succ])
    | (refine' Seg.pick_or_if (b := _) (x := _) (G := _) (c := _) (y := _) (by first | exact Seg.wanted1 rfl rfl | exact Seg.wanted2 rfl rfl) rfl rfl rfl ?_; simp only [Act.put, List.setIfInBounds_toArray, List.set_cons_zero, List.set_cons_succ])
    | (refine' Seg.pick_and_if (b := _) (x := _) (G := _) (c := _) (y := _) (by first | exact Seg.wanted1 rfl rfl | exact Seg.wanted2 rfl rfl) rfl rfl rfl ?_; simp only [Act.put, List.setIfInBounds_toArray, List.set_cons_zero, List.set_cons_succ])
    | (refine' Seg.val_if (v := _) (G := _) (by first | exact Seg.wanted1 rfl rfl | exact Seg.wanted2 rfl rfl) (fun hb w' hw => ?_) ?_; rotate_left 1; (simp only [Bool.and_eq_true, beq_iff_eq] at hb; obtain ⟨hbc, _⟩ := bcell hw; go_simp; rfl); simp only [Act.put, List.setIfInBounds_toArray, List.set_cons_zero, List.set_cons_succ]))
  refine' Seg.call_if (v := _) (G := _) (f := _) (args := _) (by first | exact Seg.wanted1 rfl rfl | exact Seg.wanted2 rfl rfl) (fun hb w' => ?_) (fun hb w' hw => callB hw (c3.out w' hw)) ?_
  · simp only [Bool.and_eq_true, beq_iff_eq] at hb
    go_simp
  simp only [Act.put, List.setIfInBounds_toArray, List.set_cons_zero, List.set_cons_succ]
  repeat (first
    | (refine' Seg.pick_or (b := _) (x := _) (c := _) (y := _) rfl rfl rfl rfl ?_; simp only [Act.put, List.setIfInBounds_toArray, List.set_cons_zero, List.set_cons_succ])
    | (refine' Seg.pick_and (b := _) (x := _) (c := _) (y := _) rfl rfl rfl rfl ?_; simp only [Act.put, List.setIfInBounds_toArray, List.set_cons_zero, List.set_cons_succ])
    | (refine' Seg.val (v := _) rfl (fun w' hw => ?_) ?_; rotate_left 1; (obtain ⟨hbc, _⟩ := bcell hw; go_simp; rfl); simp only [Act.put, List.setIfInBounds_toArray, List.set_cons_zero, List.set_cons_succ])
    | (refine' Seg.skip ?_ ?_; (focus (first | (rw [Seg.wanted1 rfl rfl]; simp; done) | (rw [Seg.wanted2 rfl rfl]; simp; done))); simp only [Act.put, List.setIfInBounds_toArray, List.set_cons_zero, List.set_cons_succ])
    | (refine' Seg.pick_or_if (b := _) (x := _) (G := _) (c := _) (y := _) (by first | exact Seg.wanted1 rfl rfl | exact Seg.wanted2 rfl rfl) rfl rfl rfl ?_; simp only [Act.put, List.setIfInBounds_toArray, List.set_cons_zero, List.set_cons_succ])
    | (refine' Seg.pick_and_if (b := _) (x := _) (G := _) (c := _) (y := _) (by first | exact Seg.wanted1 rfl rfl | exact Seg.wanted2 rfl rfl) rfl rfl rfl ?_; simp only [Act.put, List.setIfInBounds_toArray, List.set_cons_zero, List.set_cons_succ])
    | (refine' Seg.val_if (v := _) (G := _) (by first | exact Seg.wanted1 rfl rfl | exact Seg.wanted2 rfl rfl) (fun hb w' hw => ?_) ?_; rotate_left 1; (simp only [Bool.and_eq_true, beq_iff_eq] at hb; obtain ⟨hbc, _⟩ := bcell hw; go_simp; rfl); simp only [Act.put, List.setIfInBounds_toArray, List.set_cons_zero, List.set_cons_succ]))
  refine' Seg.call_if (v := _) (G := _) (f := _) (args := _) (by first | exact Seg.wanted1 rfl rfl | exact Seg.wanted2 rfl rfl) (fun hb w' => ?_) (fun hb w' hw => callB hw (c4.out w' hw)) ?_
  · simp only [Bool.and_eq_true, beq_iff_eq] at hb
    go_simp
  simp only [Act.put, List.setIfInBounds_toArray, List.set_cons_zero, List.set_cons_succ]
  repeat (first
    | (refine' Seg.pick_or (b := _) (x := _) (c := _) (y := _) rfl rfl rfl rfl ?_; simp only [Act.put, List.setIfInBounds_toArray, List.set_cons_zero, List.set_cons_succ])
    | (refine' Seg.pick_and (b := _) (x := _) (c := _) (y := _) rfl rfl rfl rfl ?_; simp only [Act.put, List.setIfInBounds_toArray, List.set_cons_zero, List.set_cons_succ])
    | (refine' Seg.val (v := _) rfl (fun w' hw => ?_) ?_; rotate_left 1; (obtain ⟨hbc, _⟩ := bcell hw; go_simp; rfl); simp only [Act.put, List.setIfInBounds_toArray, List.set_cons_zero, List.set_cons_succ])
    | (refine' Seg.skip ?_ ?_; (focus (first | (rw [Seg.wanted1 rfl rfl]; simp; done) | (rw [Seg.wanted2 rfl rfl]; simp; done))); simp only [Act.put, List.setIfInBounds_toArray, List.set_cons_zero, List.set_cons_succ])
    | (refine' Seg.pick_or_if (b := _) (x := _) (G := _) (c := _) (y := _) (by first | exact Seg.wanted1 rfl rfl | exact Seg.wanted2 rfl rfl) rfl rfl rfl ?_; simp only [Act.put, List.setIfInBounds_toArray, List.set_cons_zero, List.set_cons_succ])
    | (refine' Seg.pick_and_if (b := _) (x := _) (G := _) (c := _) (y := _) (by first | exact Seg.wanted1 rfl rfl | exact Seg.wanted2 rfl rfl) rfl rfl rfl ?_; simp only [Act.put, List.setIfInBounds_toArray, List.set_cons_zero, List.set_cons_succ])
    | (refine' Seg.val_if (v := _) (G := _) (by first | exact Seg.wanted1 rfl rfl | exact Seg.wanted2 rfl rfl) (fun hb w' hw => ?_) ?_; rotate_left 1; (simp only [Bool.and_eq_true, beq_iff_eq] at hb; obtain ⟨hbc, _⟩ := bcell hw; go_simp; rfl); simp only [Act.put, List.setIfInBounds_toArray, List.set_cons_zero, List.set_cons_succ]))
  refine' Seg.call_if (v := _) (G := _) (f := _) (args := _) (by first | exact Seg.wanted1 rfl rfl | exact Seg.wanted2 rfl rfl) (fun hb w' => ?_) (fun hb w' hw => callB hw (c5.out w' hw)) ?_
  · simp only [Bool.and_eq_true, beq_iff_eq] at hb
    go_simp
  simp only [Act.put, List.setIfInBounds_toArray, List.set_cons_zero, List.set_cons_succ]
  repeat (first
    | (refine' Seg.pick_or (b := _) (x := _) (c := _) (y := _) rfl rfl rfl rfl ?_; simp only [Act.put, List.setIfInBounds_toArray, List.set_cons_zero, List.set_cons_succ])
    | (refine' Seg.pick_and (b := _) (x := _) (c := _) (y := _) rfl rfl rfl rfl ?_; simp only [Act.put, List.setIfInBounds_toArray, List.set_cons_zero, List.set_cons_succ])
    | (refine' Seg.val (v := _) rfl (fun w' hw => ?_) ?_; rotate_left 1; (obtain ⟨hbc, _⟩ := bcell hw; go_simp; rfl); simp only [Act.put, List.setIfInBounds_toArray, List.set_cons_zero, List.set_cons_succ])
    | (refine' Seg.skip ?_ ?_; (focus (first | (rw [Seg.wanted1 rfl rfl]; simp; done) | (rw [Seg.wanted2 rfl rfl]; simp; done))); simp only [Act.put, List.setIfInBounds_toArray, List.set_cons_zero, List.set_cons_succ])
    | (refine' Seg.pick_or_if (b := _) (x := _) (G := _) (c := _) (y := _) (by first | exact Seg.wanted1 rfl rfl | exact Seg.wanted2 rfl rfl) rfl rfl rfl ?_; simp only [Act.put, List.setIfInBounds_toArray, List.set_cons_zero, List.set_cons_succ])
    | (refine' Seg.pick_and_if (b := _) (x := _) (G := _) (c := _) (y := _) (by first | exact Seg.wanted1 rfl rfl | exact Seg.wanted2 rfl rfl) rfl rfl rfl ?_; simp only [Act.put, List.setIfInBounds_toArray, List.set_cons_zero, List.set_cons_succ])
    | (refine' Seg.val_if (v := _) (G := _) (by first | exact Seg.wanted1 rfl rfl | exact Seg.wanted2 rfl rfl) (fun hb w' hw => ?_) ?_; rotate_left 1; (simp only [Bool.and_eq_true, beq_iff_eq] at hb; obtain ⟨hbc, _⟩ := bcell hw; go_simp; rfl); simp only [Act.put, List.setIfInBounds_toArray, List.set_cons_zero, List.set_cons_succ]))
  refine Seg.doneB (fun w2 hw2 => ?_)
  clear l2 k2 f2 l3 k3 f3 l7 k7 f7 l8 k8 f8 l12 k12 f12
  obtain ⟨l2, k2, f2⟩ := X2.below hw2
  obtain ⟨l3, k3, f3⟩ := X3.below hw2
  obtain ⟨l7, k7, f7⟩ := X7.below hw2
  obtain ⟨l8, k8, f8⟩ := X8.below hw2
  obtain ⟨l12, k12, f12⟩ := X12.below hw2
  go_upto_region 10 with (fail)
  repeat (first | (with_reducible refine Seg.plainB ?_) | go_step)
  repeat (first
    | (refine' Seg.pick_or (b := _) (x := _) (c := _) (y := _) rfl rfl rfl rfl ?_; simp only [Act.put, List.setIfInBounds_toArray, List.set_cons_zero, List.set_cons_succ])
    | (refine' Seg.pick_and (b := _) (x := _) (c := _) (y := _) rfl rfl rfl rfl ?_; simp only [Act.put, List.setIfInBounds_toArray, List.set_cons_zero, List.set_cons_succ])
    | (refine' Seg.val (v := _) rfl (fun w' hw => ?_) ?_; rotate_left 1; (obtain ⟨hbc, _⟩ := bcell hw; go_simp; rfl); simp only [Act.put, List.setIfInBounds_toArray, List.set_cons_zero, List.set_cons_succ])
    | (refine' Seg.skip ?_ ?_; (focus (first | (rw [Seg.wanted1 rfl rfl]; simp; done) | (rw [Seg.wanted2 rfl rfl]; simp; done))); simp only [Act.put, List.setIfInBounds_toArray, List.set_cons_zero, List.set_cons_succ])
    | (refine' Seg.pick_or_if (b := _) (x := _) (G := _) (c := _) (y := _) (by first | exact Seg.wanted1 rfl rfl | exact Seg.wanted2 rfl rfl) rfl rfl rfl ?_; simp only [Act.put, List.setIfInBounds_toArray, List.set_cons_zero, List.set_cons_succ])
    | (refine' Seg.pick_and_if (b := _) (x := _) (G := _) (c := _) (y := _) (by first | exact Seg.wanted1 rfl rfl | exact Seg.wanted2 rfl rfl) rfl rfl rfl ?_; simp only [Act.put, List.setIfInBounds_toArray, List.set_cons_zero, List.set_cons_succ])
    | (refine' Seg.val_if (v := _) (G := _) (by first | exact Seg.wanted1 rfl rfl | exact Seg.wanted2 rfl rfl) (fun hb w' hw => ?_) ?_; rotate_left 1; (simp only [Bool.and_eq_true, beq_iff_eq] at hb; obtain ⟨hbc, _⟩ := bcell hw; go_simp; rfl); simp only [Act.put, List.setIfInBounds_toArray, List.set_cons_zero, List.set_cons_succ]))
  refine' Seg.call (v := _) (f := _) (args := _) rfl (fun w' => ?_) (fun w' hw => callB hw (c6.out w' (bthen hw2 hw))) ?_
  · go_simp
  simp only [Act.put, List.setIfInBounds_toArray, List.set_cons_zero, List.set_cons_succ]
  repeat (first
    | (refine' Seg.pick_or (b := _) (x := _) (c := _) (y := _) rfl rfl rfl rfl ?_; simp only [Act.put, List.setIfInBounds_toArray, List.set_cons_zero, List.set_cons_succ])
    | (refine' Seg.pick_and (b := _) (x := _) (c := _) (y := _) rfl rfl rfl rfl ?_; simp only [Act.put, List.setIfInBounds_toArray, List.set_cons_zero, List.set_cons_succ])
    | (refine' Seg.val (v := _) rfl (fun w' hw => ?_) ?_; rotate_left 1; (obtain ⟨hbc, _⟩ := bcell hw; go_simp; rfl); simp only [Act.put, List.setIfInBounds_toArray, List.set_cons_zero, List.set_cons_succ])
    | (refine' Seg.skip ?_ ?_; (focus (first | (rw [Seg.wanted1 rfl rfl]; simp; done) | (rw [Seg.wanted2 rfl rfl]; simp; done))); simp only [Act.put, List.setIfInBounds_toArray, List.set_cons_zero, List.set_cons_succ])
    | (refine' Seg.pick_or_if (b := _) (x := _) (G := _) (c := _) (y := _) (by first | exact Seg.wanted1 rfl rfl | exact Seg.wanted2 rfl rfl) rfl rfl rfl ?_; simp only [Act.put, List.setIfInBounds_toArray, List.set_cons_zero, List.set_cons_succ])
    | (refine' Seg.pick_and_if (b := _) (x := _) (G := _) (c := _) (y := _) (by first | exact Seg.wanted1 rfl rfl | exact Seg.wanted2 rfl rfl) rfl rfl rfl ?_; simp only [Act.put, List.setIfInBounds_toArray, List.set_cons_zero, List.set_cons_succ])
    | (refine' Seg.val_if (v := _) (G := _) (by first | exact Seg.wanted1 rfl rfl | exact Seg.wanted2 rfl rfl) (fun hb w' hw => ?_) ?_; rotate_left 1; (simp only [Bool.and_eq_true, beq_iff_eq] at hb; obtain ⟨hbc, _⟩ := bcell hw; go_simp; rfl); simp only [Act.put, List.setIfInBounds_toArray, List.set_cons_zero, List.set_cons_succ]))
  refine' Seg.call_if (v := _) (G := _) (f := _) (args := _) (by first | exact Seg.wanted1 rfl rfl | exact Seg.wanted2 rfl rfl) (fun hb w' => ?_) (fun hb w' hw => callB hw (c7.out w' (bthen hw2 hw))) ?_
  · simp only [Bool.and_eq_true, beq_iff_eq] at hb
    go_simp
  simp only [Act.put, List.setIfInBounds_toArray, List.set_cons_zero, List.set_cons_succ]
  repeat (first
    | (refine' Seg.pick_or (b := _) (x := _) (c := _) (y := _) rfl rfl rfl rfl ?_; simp only [Act.put, List.setIfInBounds_toArray, List.set_cons_zero, List.set_cons_succ])
    | (refine' Seg.pick_and (b := _) (x := _) (c := _) (y := _) rfl rfl rfl rfl ?_; simp only [Act.put, List.setIfInBounds_toArray, List.set_cons_zero, List.set_cons_succ])
    | (refine' Seg.val (v := _) rfl (fun w' hw => ?_) ?_; rotate_left 1; (obtain ⟨hbc, _⟩ := bcell hw; go_simp; rfl); simp only [Act.put, List.setIfInBounds_toArray, List.set_cons_zero, List.set_cons_succ])
    | (refine' Seg.skip ?_ ?_; (focus (first | (rw [Seg.wanted1 rfl rfl]; simp; done) | (rw [Seg.wanted2 rfl rfl]; simp; done))); simp only [Act.put, List.setIfInBounds_toArray, List.set_cons_zero, List.set_cons_succ])
    | (refine' Seg.pick_or_if (b := _) (x := _) (G := _) (c := _) (y := _) (by first | exact Seg.wanted1 rfl rfl | exact Seg.wanted2 rfl rfl) rfl rfl rfl ?_; simp only [Act.put, List.setIfInBounds_toArray, List.set_cons_zero, List.set_cons_succ])
    | (refine' Seg.pick_and_if (b := _) (x := _) (G := _) (c := _) (y := _) (by first | exact Seg.wanted1 rfl rfl | exact Seg.wanted2 rfl rfl) rfl rfl rfl ?_; simp only [Act.put, List.setIfInBounds_toArray, List.set_cons_zero, List.set_cons_succ])
    | (refine' Seg.val_if (v := _) (G := _) (by first | exact Seg.wanted1 rfl rfl | exact Seg.wanted2 rfl rfl) (fun hb w' hw => ?_) ?_; rotate_left 1; (simp only [Bool.and_eq_true, beq_iff_eq] at hb; obtain ⟨hbc, _⟩ := bcell hw; go_simp; rfl); simp only [Act.put, List.setIfInBounds_toArray, List.set_cons_zero, List.set_cons_succ]))
  refine' Seg.call_if (v := _) (G := _) (f := _) (args := _) (by first | exact Seg.wanted1 rfl rfl | exact Seg.wanted2 rfl rfl) (fun hb w' => ?_) (fun hb w' hw => callB hw (c8.out w' (bthen hw2 hw))) ?_
  · simp only [Bool.and_eq_true, beq_iff_eq] at hb
    go_simp
  simp only [Act.put, List.setIfInBounds_toArray, List.set_cons_zero, List.set_cons_succ]
  repeat (first
    | (refine' Seg.pick_or (b := _) (x := _) (c := _) (y := _) rfl rfl rfl rfl ?_; simp only [Act.put, List.setIfInBounds_toArray, List.set_cons_zero, List.set_cons_succ])
    | (refine' Seg.pick_and (b := _) (x := _) (c := _) (y := _) rfl rfl rfl rfl ?_; simp only [Act.put, List.setIfInBounds_toArray, List.set_cons_zero, List.set_cons_succ])
    | (refine' Seg.val (v := _) rfl (fun w' hw => ?_) ?_; rotate_left 1; (obtain ⟨hbc, _⟩ := bcell hw; go_simp; rfl); simp only [Act.put, List.setIfInBounds_toArray, List.set_cons_zero, List.set_cons_succ])
    | (refine' Seg.skip ?_ ?_; (focus (first | (rw [Seg.wanted1 rfl rfl]; simp; done) | (rw [Seg.wanted2 rfl rfl]; simp; done))); simp only [Act.put, List.setIfInBounds_toArray, List.set_cons_zero, List.set_cons_succ])
    | (refine' Seg.pick_or_if (b := _) (x := _) (G := _) (c := _) (y := _) (by first | exact Seg.wanted1 rfl rfl | exact Seg.wanted2 rfl rfl) rfl rfl rfl ?_; simp only [Act.put, List.setIfInBounds_toArray, List.set_cons_zero, List.set_cons_succ])
    | (refine' Seg.pick_and_if (b := _) (x := _) (G := _) (c := _) (y := _) (by first | exact Seg.wanted1 rfl rfl | exact Seg.wanted2 rfl rfl) rfl rfl rfl ?_; simp only [Act.put, List.setIfInBounds_toArray, List.set_cons_zero, List.set_cons_succ])
    | (refine' Seg.val_if (v := _) (G := _) (by first | exact Seg.wanted1 rfl rfl | exact Seg.wanted2 rfl rfl) (fun hb w' hw => ?_) ?_; rotate_left 1; (simp only [Bool.and_eq_true, beq_iff_eq] at hb; obtain ⟨hbc, _⟩ := bcell hw; go_simp; rfl); simp only [Act.put, List.setIfInBounds_toArray, List.set_cons_zero, List.set_cons_succ]))
  refine' Seg.call_if (v := _) (G := _) (f := _) (args := _) (by first | exact Seg.wanted1 rfl rfl | exact Seg.wanted2 rfl rfl) (fun hb w' => ?_) (fun hb w' hw => callB hw (c9.out w' (bthen hw2 hw))) ?_
  · simp only [Bool.and_eq_true, beq_iff_eq] at hb
    go_simp
  simp only [Act.put, List.setIfInBounds_toArray, List.set_cons_zero, List.set_cons_succ]
  repeat (first
    | (refine' Seg.pick_or (b := _) (x := _) (c := _) (y := _) rfl rfl rfl rfl ?_; simp only [Act.put, List.setIfInBounds_toArray, List.set_cons_zero, List.set_cons_succ])
    | (refine' Seg.pick_and (b := _) (x := _) (c := _) (y := _) rfl rfl rfl rfl ?_; simp only [Act.put, List.setIfInBounds_toArray, List.set_cons_zero, List.set_cons_succ])
    | (refine' Seg.val (v := _) rfl (fun w' hw => ?_) ?_; rotate_left 1; (obtain ⟨hbc, _⟩ := bcell hw; go_simp; rfl); simp only [Act.put, List.setIfInBounds_toArray, List.set_cons_zero, List.set_cons_succ])
    | (refine' Seg.skip ?_ ?_; (focus (first | (rw [Seg.wanted1 rfl rfl]; simp; done) | (rw [Seg.wanted2 rfl rfl]; simp; done))); simp only [Act.put, List.setIfInBounds_toArray, List.set_cons_zero, List.set_cons_succ])
    | (refine' Seg.pick_or_if (b := _) (x := _) (G := _) (c := _) (y := _) (by first | exact Seg.wanted1 rfl rfl | exact Seg.wanted2 rfl rfl) rfl rfl rfl ?_; simp only [Act.put, List.setIfInBounds_toArray, List.set_cons_zero, List.set_cons_succ])
    | (refine' Seg.pick_and_if (b := _) (x := _) (G := _) (c := _) (y := _) (by first | exact Seg.wanted1 rfl rfl | exact Seg.wanted2 rfl rfl) rfl rfl rfl ?_; simp only [Act.put, List.setIfInBounds_toArray, List.set_cons_zero, List.set_cons_succ])
    | (refine' Seg.val_if (v := _) (G := _) (by first | exact Seg.wanted1 rfl rfl | exact Seg.wanted2 rfl rfl) (fun hb w' hw => ?_) ?_; rotate_left 1; (simp only [Bool.and_eq_true, beq_iff_eq] at hb; obtain ⟨hbc, _⟩ := bcell hw; go_simp; rfl); simp only [Act.put, List.setIfInBounds_toArray, List.set_cons_zero, List.set_cons_succ]))
  refine' Seg.call_if (v := _) (G := _) (f := _) (args := _) (by first | exact Seg.wanted1 rfl rfl | exact Seg.wanted2 rfl rfl) (fun hb w' => ?_) (fun hb w' hw => callB hw (c10.out w' (bthen hw2 hw))) ?_
  · simp only [Bool.and_eq_true, beq_iff_eq] at hb
    go_simp
  simp only [Act.put, List.setIfInBounds_toArray, List.set_cons_zero, List.set_cons_succ]
  repeat (first
    | (refine' Seg.pick_or (b := _) (x := _) (c := _) (y := _) rfl rfl rfl rfl ?_; simp only [Act.put, List.setIfInBounds_toArray, List.set_cons_zero, List.set_cons_succ])
    | (refine' Seg.pick_and (b := _) (x := _) (c := _) (y := _) rfl rfl rfl rfl ?_; simp only [Act.put, List.setIfInBounds_toArray, List.set_cons_zero, List.set_cons_succ])
    | (refine' Seg.val (v := _) rfl (fun w' hw => ?_) ?_; rotate_left 1; (obtain ⟨hbc, _⟩ := bcell hw; go_simp; rfl); simp only [Act.put, List.setIfInBounds_toArray, List.set_cons_zero, List.set_cons_succ])
    | (refine' Seg.skip ?_ ?_; (focus (first | (rw [Seg.wanted1 rfl rfl]; simp; done) | (rw [Seg.wanted2 rfl rfl]; simp; done))); simp only [Act.put, List.setIfInBounds_toArray, List.set_cons_zero, List.set_cons_succ])
    | (refine' Seg.pick_or_if (b := _) (x := _) (G := _) (c := _) (y := _) (by first | exact Seg.wanted1 rfl rfl | exact Seg.wanted2 rfl rfl) rfl rfl rfl ?_; simp only [Act.put, List.setIfInBounds_toArray, List.set_cons_zero, List.set_cons_succ])
    | (refine' Seg.pick_and_if (b := _) (x := _) (G := _) (c := _) (y := _) (by first | exact Seg.wanted1 rfl rfl | exact Seg.wanted2 rfl rfl) rfl rfl rfl ?_; simp only [Act.put, List.setIfInBounds_toArray, List.set_cons_zero, List.set_cons_succ])
    | (refine' Seg.val_if (v := _) (G := _) (by first | exact Seg.wanted1 rfl rfl | exact Seg.wanted2 rfl rfl) (fun hb w' hw => ?_) ?_; rotate_left 1; (simp only [Bool.and_eq_true, beq_iff_eq] at hb; obtain ⟨hbc, _⟩ := bcell hw; go_simp; rfl); simp only [Act.put, List.setIfInBounds_toArray, List.set_cons_zero, List.set_cons_succ]))
  refine Seg.doneB (fun w3 hw3 => ?_)
  go_wp2
  go_ret
  exact ⟨rfl, bthen hB (bthen hw2 hw3)⟩
end Go.Proofs.Ytfmekjpmjefpmaa

/- few, byFlow, walked. -/
import Derived.Test.YtfmekjpmjefpmaaWn
import Derived.Shelf.Abstract
set_option linter.unusedSimpArgs false
set_option linter.unusedVariables false
namespace Go.Proofs.Ytfmekjpmjefpmaa
open Go.RowKit Go.Shelf
attribute [local go_sem] Oper.semAt_some

theorem Box.get {w : World} {b : Nat} {v : Value} (h : Box w b #[v]) : w.cell? ⟨b, 0, none⟩ = some v := h.cell 0
theorem Box.put {w : World} {b : Nat} {v u : Value} (h : Box w b #[v]) : Box (w.setCell ⟨b, 0, none⟩ u) b #[u] := h.set (by simp) rfl
theorem Box.putOther {w : World} {b b' : Nat} {C : Array Value} {u : Value} (h : Box w b C) (hne : b' ≠ b) : Box (w.setCell ⟨b', 0, none⟩ u) b C :=
  ⟨by simpa [World.setCell] using h.lt, fun j => (World.cell?_setCell_other _ _ _ _ (by intro h; simp only [Addr.mk.injEq] at h; exact hne h.1)).trans (h.cell j), fun j => (World.frozen?_setCell _ _ _ _).trans (h.free j)⟩
theorem Box.belowN' {w w1 : World} {b N : Nat} {C : Array Value} (h : Box w b C) (hb : Below N w w1) (hN : b < N) : Box w1 b C := h.belowN hb hN
/-- A function that holds a range over a function leaves. -/
theorem leave_marked {P : Program} {fn : Func} {tmps : Array Value} {R : Ending → World → Prop} {D : Nat} {W : World} {v : Value} (hK : W.heap[D]? = some (.deferred (some [])))
    (hres : (results fn tmps).run P (W.putObj D (.deferred none)) = .ok v (W.putObj D (.deferred none))) (h : R (.returned v) (W.putObj D (.deferred none))) :
    LeavesInM Fence.wide 0 P fn tmps R [{ target := .collected D, args := #[] }] .returning W := by
  refine ⟨by simp, .inl ⟨_, _, rfl, run_takeDeferred hK, ?_⟩⟩
  exact ⟨v, hres, h⟩
theorem Box.putObj {w : World} {b l : Nat} {C : Array Value} {o : Obj} (h : Box w b C) (hne : b ≠ l) : Box (w.putObj l o) b C :=
  h.kept (M := fun x => x = l) (Kept.putObj (M := fun x => x = l) (Kept.refl _ _) rfl _) hne
theorem results_cell1 {P : Program} {fn : Func} {p : Tmp} {ty : TypeId} {tmps : Array Value} {w : World} {a : Addr} {v : Value} (h : fn.results = #[.cell p ty]) (hp : tmps.getD p undef = .pointer (some a)) (hl : (loadVar ty a).run P w = .ok v w) :
    (results fn tmps).run P w = .ok v w := by
  have hp' : (tmps[p]?).getD undef = .pointer (some a) := by simpa using hp
  simp [results, h, hp', asAddr_run, Sem.run_bind, Result.andThen, hl]
theorem load_bool {w : World} {b : Nat} {x : Bool} (h : Box w b #[.bool x]) : (loadVar 4 ⟨b, 0, none⟩).run Try.prog w = .ok (.bool x) w := by
  have hc := h.get
  go_simp

set_option maxHeartbeats 4000000 in
set_option maxRecDepth 100000 in
theorem fewSets_any (m : RaceM) (many : Nat) (w : World) (hn : m.q.clubs.length ≤ 24) (hmany : many ≤ 1000) :
    Calls Try.prog 69 #[m.v, .int .i64 many] w fun e w' => e = .returned (.bool (decide ((setsOf m.q many).length ≤ 2048))) ∧ Below w.heap.size w w' := by
  obtain ⟨q, A2, c2, A3, c3, A4, c4⟩ := m
  dsimp only [RaceM.v] at *
  generalize hres : (Ending.returned (.bool (decide ((setsOf q many).length ≤ 2048)))) = R
  have HRes := Lib.hid hres
  clear hres
  refine (callsIn_wide (n := 0)).1 (callsIn_of_wp_marks Try.func69 rfl trivial (wpIn_wide.2 ?_) rfl)
  simp only [Try.ntmps69, List.size_toArray, List.length_cons, List.length_nil, Nat.reduceAdd, Nat.reduceSub, Array.replicate_succ, Array.replicate_zero, List.push_toArray, List.append_toArray, List.nil_append, List.cons_append]
  go_upto_region 2 with (fail)
  obtain ⟨W0, hW0, hB0, X0, Y0, Z0⟩ := box3 w #[.int .i64 q.win, .int .i64 q.draw, .slice A2 q.clubs.length c2, .slice A3 q.points.length c3, .slice A4 q.games.length c4, .int .i64 q.club, .int .i64 q.place] #[.bool false] #[.int .i64 0] 53 4 3
  have hsz0 : Hid (W0.heap.size = w.heap.size + 3) := Lib.hid (by rw [← hW0]; simp)
  rw [hW0]
  clear hW0
  obtain ⟨lx, cx, fx⟩ := id X0
  go_wp2_with (go_at_call 88; refine (sets_any ⟨q, A2, c2, A3, c3, A4, c4⟩ many W0).mono ?_; rintro e w' ⟨rfl, rfl⟩)
  dsimp only [raceCells]
  clear lx cx fx
  obtain ⟨W1, hW1, hB1, X1, Y1⟩ := box2 W0 #[.int .i64 q.win, .int .i64 q.draw, .slice A2 q.clubs.length c2, .slice A3 q.points.length c3, .slice A4 q.games.length c4, .int .i64 q.club, .int .i64 q.place] #[.int .i64 many] 53 3
  have hsz1 : W1.heap.size = w.heap.size + 5 := by rw [← hW1]; have := hsz0.out; simp; omega
  rw [hW1]
  clear hW1
  replace hsz0 := hsz0.out
  have HB1 := bthen hB0 hB1
  refine (wpIn_wide (n := 0)).1 ?_
  refine' range_law (p := 9) rfl (enters_of Try.func102 (by kernel_rfl) rfl) (sets_seq q A2 A3 A4 c2 c3 c4 many W0.heap.size (W0.heap.size + 1) hn hmany) (fun V hb => ⟨X1.below hb, Y1.below hb⟩) (fun b => b = w.heap.size + 1 ∨ b = w.heap.size + 1 + 1) (fun b hb => by omega) (fun b hb => by omega)
    (fun k W => Box W (w.heap.size + 1) #[.bool false] ∧ Box W (w.heap.size + 1 + 1) #[.int .i64 k] ∧ k ≤ 2048 ∧ Below w.heap.size w W)
    (fun c W => c = .ret ∧ Box W (w.heap.size + 1) #[.bool false] ∧ 2048 < (setsOf q many).length ∧ Below w.heap.size w W)
    (fun k V1 V2 ⟨h1, h2, h3, h4⟩ hs hb => ⟨h1.belowN' hb (by omega), h2.belowN' hb (by omega), h3, h4.trans (hb.mono (by omega))⟩)
    (fun c V1 V2 ⟨h1, h2, h3, h4⟩ hs hb => ⟨h1, h2.belowN' hb (by omega), h3, h4.trans (hb.mono (by omega))⟩)
    ⟨Y0.below hB1, Z0.below hB1, by omega, HB1⟩ _ ?_ ?_ ?_ ?_
  rotate_left 1
  · intro l v W K hK
    gi_wp2
    exact hK
  · rintro l k x W A c hx ⟨h1, h2, h3, h4⟩ hxc hrow hs
    have HS0 := Lib.hid hsz0
    have HS1 := Lib.hid hsz1
    clear hsz0 hsz1
    have hcn := h2.get
    obtain ⟨ln, -, fn⟩ := id h2
    obtain ⟨lb, cb, fb⟩ := id h1
    have hk1 : IntKind.i64.wrap ((k : Int) + 1) = (k : Int) + 1 := IntWalk.i64_in _ (by omega)
    simp only [List.setIfInBounds_toArray, List.set_cons_zero, List.set_cons_succ]
    have hlen : k < (setsOf q many).length := (List.getElem?_eq_some_iff.1 hx).1
    have HX := Lib.hid hx
    clear hx
    by_cases hgt : k = 2048
    · subst hgt
      gi_wp2
      exact ⟨((Kept.refl _ _).setCell (.inr rfl) _).setCell (.inl rfl) _, rfl, (h1.putOther (by omega)).put, hlen, bset (bset h4 (by omega)) (by omega)⟩
    · have hle : (k : Int) + 1 ≤ 2048 := by omega
      gi_wp2
      exact ⟨(Kept.refl _ _).setCell (.inr rfl) _, h1.putOther (by omega), h2.put, by omega, bset h4 (by omega)⟩
  · rintro D W hD ⟨h1, h2, h3, h4⟩ hK
    have HS0 := Lib.hid hsz0
    have HS1 := Lib.hid hsz1
    clear hsz0 hsz1
    obtain ⟨lb, cb, fb⟩ := id h1
    go_wp2
    have hK2 : (W.setCell ⟨w.heap.size + 1, 0, none⟩ (.bool true)).heap[D]? = some (.deferred (some [])) := (Below.heap_setCell _ _ _ _ (by have := HS1.out; simp only; omega)).trans hK
    have hR := (h1.put (u := .bool true)).putObj (l := D) (o := .deferred none) (by have := HS1.out; omega)
    refine leave_marked hK2 (results_cell1 rfl rfl (load_bool hR)) ⟨?_, below_putObj (bset h4 (by omega)) (by have := HS1.out; omega) _⟩
    rw [← HRes.out, decide_eq_true h3]
  · rintro D c W hD ⟨rfl, h2, h3, h4⟩ hK
    have HS0 := Lib.hid hsz0
    have HS1 := Lib.hid hsz1
    clear hsz0 hsz1
    gi_wp2
    have hR := h2.putObj (l := D) (o := .deferred none) (by have := HS1.out; omega)
    refine leave_marked hK (results_cell1 rfl rfl (load_bool hR)) ⟨?_, below_putObj h4 (by have := HS1.out; omega) _⟩
    rw [← HRes.out, decide_eq_false (by omega)]
end Go.Proofs.Ytfmekjpmjefpmaa

/- certain, out, open, unknown, walked. -/
import Derived.Test.YtfmekjpmjefpmaaWt
set_option linter.unusedSimpArgs false
set_option linter.unusedVariables false
namespace Go.Proofs.Ytfmekjpmjefpmaa
open Go.RowKit

/-- Bounds on a verdict that the walks want. -/
structure VSmall (v : VerdictM) : Prop where
  c : v.v.cuts.length ≤ v.c3
  r : v.v.reached.length ≤ 1000000
  m : v.v.missed.length ≤ 1000000
  k : v.v.cuts.length ≤ 1000000

set_option maxHeartbeats 4000000 in
set_option maxRecDepth 100000 in
theorem certain_any (m : RaceM) (v : VerdictM) (w : World) (hq : RaceIn w m) (hv : VerdictIn w v) (hs : VSmall v) (hg : Good m.q) :
    Calls Try.prog 22 #[m.v, v.val] w fun e w' => e = .returned (.bool (shownB m.q true v.v)) ∧ Below w.heap.size w w' := by
  obtain ⟨q, A2, c2, A3, c3, A4, c4⟩ := m
  obtain ⟨⟨kd, re, mi, cu⟩, B1, d1, B2, d2, B3, d3⟩ := v
  dsimp only [RaceM.v, VerdictM.val] at *
  go_enter Try.func22, Try.ntmps22
  go_upto_region 1 with (fail)
  obtain ⟨W0, hW0, hB0, X0, V0⟩ := box2 w #[.int .i64 q.win, .int .i64 q.draw, .slice A2 q.clubs.length c2, .slice A3 q.points.length c3, .slice A4 q.games.length c4, .int .i64 q.club, .int .i64 q.place] #[.int .i64 kd, .slice B1 re.length d1, .slice B2 mi.length d2, .slice B3 cu.length d3] 53 28
  rw [hW0]
  clear hW0
  obtain ⟨lx, cx, fx⟩ := id X0
  obtain ⟨lv, cv, fv⟩ := id V0
  have HC := shown_any ⟨q, A2, c2, A3, c3, A4, c4⟩ true ⟨⟨kd, re, mi, cu⟩, B1, d1, B2, d2, B3, d3⟩ W0 (hq.below hB0) (hv.below hB0) hs.c hg hs.r hs.m
  replace HC := Lib.hid HC
  go_wp2_with (go_at_call 39; refine HC.out.mono ?_; rintro e w' ⟨rfl, hb⟩)
  go_ret
  exact ⟨rfl, bthen hB0 hb⟩

set_option maxHeartbeats 4000000 in
set_option maxRecDepth 100000 in
theorem out_any (m : RaceM) (v : VerdictM) (w : World) (hq : RaceIn w m) (hv : VerdictIn w v) (hs : VSmall v) (hg : Good m.q) :
    Calls Try.prog 23 #[m.v, v.val] w fun e w' => e = .returned (.bool (shownB m.q false v.v)) ∧ Below w.heap.size w w' := by
  obtain ⟨q, A2, c2, A3, c3, A4, c4⟩ := m
  obtain ⟨⟨kd, re, mi, cu⟩, B1, d1, B2, d2, B3, d3⟩ := v
  dsimp only [RaceM.v, VerdictM.val] at *
  go_enter Try.func23, Try.ntmps23
  go_upto_region 1 with (fail)
  obtain ⟨W0, hW0, hB0, X0, V0⟩ := box2 w #[.int .i64 q.win, .int .i64 q.draw, .slice A2 q.clubs.length c2, .slice A3 q.points.length c3, .slice A4 q.games.length c4, .int .i64 q.club, .int .i64 q.place] #[.int .i64 kd, .slice B1 re.length d1, .slice B2 mi.length d2, .slice B3 cu.length d3] 53 28
  rw [hW0]
  clear hW0
  obtain ⟨lx, cx, fx⟩ := id X0
  obtain ⟨lv, cv, fv⟩ := id V0
  have HC := shown_any ⟨q, A2, c2, A3, c3, A4, c4⟩ false ⟨⟨kd, re, mi, cu⟩, B1, d1, B2, d2, B3, d3⟩ W0 (hq.below hB0) (hv.below hB0) hs.c hg hs.r hs.m
  replace HC := Lib.hid HC
  go_wp2_with (go_at_call 39; refine HC.out.mono ?_; rintro e w' ⟨rfl, hb⟩)
  go_ret
  exact ⟨rfl, bthen hB0 hb⟩

def openB (q : Race) (v : Verdict) : Bool := (((v.cuts.length : Int) == 0) && (reachedOf q v.reached == 0)) && (missedOf q v.missed == 0)
set_option maxHeartbeats 4000000 in
set_option maxRecDepth 100000 in
theorem open_any (m : RaceM) (v : VerdictM) (w : World) (hq : RaceIn w m) (hv : VerdictIn w v) (hs : VSmall v) :
    Calls Try.prog 24 #[m.v, v.val] w fun e w' => e = .returned (.bool (openB m.q v.v)) ∧ Below w.heap.size w w' := by
  obtain ⟨q, A2, c2, A3, c3, A4, c4⟩ := m
  obtain ⟨⟨kd, re, mi, cu⟩, B1, d1, B2, d2, B3, d3⟩ := v
  dsimp only [RaceM.v, VerdictM.val] at *
  have hk := hs.k
  dsimp only at hk
  go_enter Try.func24, Try.ntmps24
  go_upto_region 1 with (fail)
  obtain ⟨W0, hW0, hB0, X0, V0⟩ := box2 w #[.int .i64 q.win, .int .i64 q.draw, .slice A2 q.clubs.length c2, .slice A3 q.points.length c3, .slice A4 q.games.length c4, .int .i64 q.club, .int .i64 q.place] #[.int .i64 kd, .slice B1 re.length d1, .slice B2 mi.length d2, .slice B3 cu.length d3] 53 28
  rw [hW0]
  clear hW0
  have hq0 := hq.below hB0
  have hv0 := hv.below hB0
  obtain ⟨lx, cx, fx⟩ := id X0
  obtain ⟨lv, cv, fv⟩ := id V0
  repeat (first | (with_reducible refine Seg.plainB ?_) | go_step)
  repeat (first
    | (refine' Seg.pick_or (b := _) (x := _) (c := _) (y := _) rfl rfl rfl rfl ?_; simp only [Act.put, List.setIfInBounds_toArray, List.set_cons_zero, List.set_cons_succ])
    | (refine' Seg.pick_and (b := _) (x := _) (c := _) (y := _) rfl rfl rfl rfl ?_; simp only [Act.put, List.setIfInBounds_toArray, List.set_cons_zero, List.set_cons_succ])
    | (refine' Seg.val (v := _) rfl (fun w' hw => ?_) ?_; rotate_left 1; (obtain ⟨hbc, _⟩ := bcell hw; go_simp; rfl); simp only [Act.put, List.setIfInBounds_toArray, List.set_cons_zero, List.set_cons_succ])
    | (refine' Seg.skip ?_ ?_; (focus (first | (rw [Seg.wanted1 rfl rfl]; simp; done) | (rw [Seg.wanted2 rfl rfl]; simp; done))); simp only [Act.put, List.setIfInBounds_toArray, List.set_cons_zero, List.set_cons_succ])
    | (refine' Seg.pick_or_if (b := _) (x := _) (G := _) (c := _) (y := _) (by first | exact Seg.wanted1 rfl rfl | exact Seg.wanted2 rfl rfl) rfl rfl rfl ?_; simp only [Act.put, List.setIfInBounds_toArray, List.set_cons_zero, List.set_cons_succ])
    | (refine' Seg.pick_and_if (b := _) (x := _) (G := _) (c := _) (y := _) (by first | exact Seg.wanted1 rfl rfl | exact Seg.wanted2 rfl rfl) rfl rfl rfl ?_; simp only [Act.put, List.setIfInBounds_toArray, List.set_cons_zero, List.set_cons_succ])
    | (refine' Seg.val_if (v := _) (G := _) (by first | exact Seg.wanted1 rfl rfl | exact Seg.wanted2 rfl rfl) (fun hb w' hw => ?_) ?_; rotate_left 1; (simp only [Bool.and_eq_true, beq_iff_eq] at hb; obtain ⟨hbc, _⟩ := bcell hw; go_simp; rfl); simp only [Act.put, List.setIfInBounds_toArray, List.set_cons_zero, List.set_cons_succ]))
  refine' Seg.call_if (v := _) (G := _) (f := _) (args := _) (by first | exact Seg.wanted1 rfl rfl | exact Seg.wanted2 rfl rfl) (fun hb w' => ?_) (fun hb w' hw => callB hw (reached_any ⟨q, A2, c2, A3, c3, A4, c4⟩ B1 d1 re w' (hq0.below hw) (hv0.below hw).h1)) ?_
  · simp only [Bool.and_eq_true, beq_iff_eq] at hb
    go_simp
  simp only [Act.put, List.setIfInBounds_toArray, List.set_cons_zero, List.set_cons_succ]
  repeat (first
    | (refine' Seg.pick_or (b := _) (x := _) (c := _) (y := _) rfl rfl rfl rfl ?_; simp only [Act.put, List.setIfInBounds_toArray, List.set_cons_zero, List.set_cons_succ])
    | (refine' Seg.pick_and (b := _) (x := _) (c := _) (y := _) rfl rfl rfl rfl ?_; simp only [Act.put, List.setIfInBounds_toArray, List.set_cons_zero, List.set_cons_succ])
    | (refine' Seg.val (v := _) rfl (fun w' hw => ?_) ?_; rotate_left 1; (obtain ⟨hbc, _⟩ := bcell hw; go_simp; rfl); simp only [Act.put, List.setIfInBounds_toArray, List.set_cons_zero, List.set_cons_succ])
    | (refine' Seg.skip ?_ ?_; (focus (first | (rw [Seg.wanted1 rfl rfl]; simp; done) | (rw [Seg.wanted2 rfl rfl]; simp; done))); simp only [Act.put, List.setIfInBounds_toArray, List.set_cons_zero, List.set_cons_succ])
    | (refine' Seg.pick_or_if (b := _) (x := _) (G := _) (c := _) (y := _) (by first | exact Seg.wanted1 rfl rfl | exact Seg.wanted2 rfl rfl) rfl rfl rfl ?_; simp only [Act.put, List.setIfInBounds_toArray, List.set_cons_zero, List.set_cons_succ])
    | (refine' Seg.pick_and_if (b := _) (x := _) (G := _) (c := _) (y := _) (by first | exact Seg.wanted1 rfl rfl | exact Seg.wanted2 rfl rfl) rfl rfl rfl ?_; simp only [Act.put, List.setIfInBounds_toArray, List.set_cons_zero, List.set_cons_succ])
    | (refine' Seg.val_if (v := _) (G := _) (by first | exact Seg.wanted1 rfl rfl | exact Seg.wanted2 rfl rfl) (fun hb w' hw => ?_) ?_; rotate_left 1; (simp only [Bool.and_eq_true, beq_iff_eq] at hb; obtain ⟨hbc, _⟩ := bcell hw; go_simp; rfl); simp only [Act.put, List.setIfInBounds_toArray, List.set_cons_zero, List.set_cons_succ]))
  refine' Seg.call_if (v := _) (G := _) (f := _) (args := _) (by first | exact Seg.wanted1 rfl rfl | exact Seg.wanted2 rfl rfl) (fun hb w' => ?_) (fun hb w' hw => callB hw (missed_any ⟨q, A2, c2, A3, c3, A4, c4⟩ B2 d2 mi w' (hq0.below hw) (hv0.below hw).h2)) ?_
  · simp only [Bool.and_eq_true, beq_iff_eq] at hb
    go_simp
  simp only [Act.put, List.setIfInBounds_toArray, List.set_cons_zero, List.set_cons_succ]
  repeat (first
    | (refine' Seg.pick_or (b := _) (x := _) (c := _) (y := _) rfl rfl rfl rfl ?_; simp only [Act.put, List.setIfInBounds_toArray, List.set_cons_zero, List.set_cons_succ])
    | (refine' Seg.pick_and (b := _) (x := _) (c := _) (y := _) rfl rfl rfl rfl ?_; simp only [Act.put, List.setIfInBounds_toArray, List.set_cons_zero, List.set_cons_succ])
    | (refine' Seg.val (v := _) rfl (fun w' hw => ?_) ?_; rotate_left 1; (obtain ⟨hbc, _⟩ := bcell hw; go_simp; rfl); simp only [Act.put, List.setIfInBounds_toArray, List.set_cons_zero, List.set_cons_succ])
    | (refine' Seg.skip ?_ ?_; (focus (first | (rw [Seg.wanted1 rfl rfl]; simp; done) | (rw [Seg.wanted2 rfl rfl]; simp; done))); simp only [Act.put, List.setIfInBounds_toArray, List.set_cons_zero, List.set_cons_succ])
    | (refine' Seg.pick_or_if (b := _) (x := _) (G := _) (c := _) (y := _) (by first | exact Seg.wanted1 rfl rfl | exact Seg.wanted2 rfl rfl) rfl rfl rfl ?_; simp only [Act.put, List.setIfInBounds_toArray, List.set_cons_zero, List.set_cons_succ])
    | (refine' Seg.pick_and_if (b := _) (x := _) (G := _) (c := _) (y := _) (by first | exact Seg.wanted1 rfl rfl | exact Seg.wanted2 rfl rfl) rfl rfl rfl ?_; simp only [Act.put, List.setIfInBounds_toArray, List.set_cons_zero, List.set_cons_succ])
    | (refine' Seg.val_if (v := _) (G := _) (by first | exact Seg.wanted1 rfl rfl | exact Seg.wanted2 rfl rfl) (fun hb w' hw => ?_) ?_; rotate_left 1; (simp only [Bool.and_eq_true, beq_iff_eq] at hb; obtain ⟨hbc, _⟩ := bcell hw; go_simp; rfl); simp only [Act.put, List.setIfInBounds_toArray, List.set_cons_zero, List.set_cons_succ]))
  refine Seg.doneB (fun w3 hw3 => ?_)
  go_wp2
  go_ret
  exact ⟨rfl, bthen hB0 hw3⟩

def unknownB (q : Race) (v : Verdict) : Bool := (((((v.reached.length : Int) + v.missed.length) + v.cuts.length) == 0) && !byFlow q) && !bySearch q
set_option maxHeartbeats 4000000 in
set_option maxRecDepth 100000 in
theorem unknown_any (m : RaceM) (v : VerdictM) (w : World) (hs : VSmall v) (hg : Good m.q) :
    Calls Try.prog 25 #[m.v, v.val] w fun e w' => e = .returned (.bool (unknownB m.q v.v)) ∧ Below w.heap.size w w' := by
  obtain ⟨q, A2, c2, A3, c3, A4, c4⟩ := m
  obtain ⟨⟨kd, re, mi, cu⟩, B1, d1, B2, d2, B3, d3⟩ := v
  dsimp only [RaceM.v, VerdictM.val] at *
  have hk := hs.k
  have hr := hs.r
  have hm := hs.m
  dsimp only at hk hr hm
  have hw1 : IntKind.i64.wrap ((re.length : Int) + mi.length) = (re.length : Int) + mi.length := IntWalk.i64_in _ (by omega)
  have hw2 : IntKind.i64.wrap ((re.length : Int) + mi.length + cu.length) = (re.length : Int) + mi.length + cu.length := IntWalk.i64_in _ (by omega)
  go_enter Try.func25, Try.ntmps25
  go_upto_region 1 with (fail)
  obtain ⟨W0, hW0, hB0, X0, V0⟩ := box2 w #[.int .i64 q.win, .int .i64 q.draw, .slice A2 q.clubs.length c2, .slice A3 q.points.length c3, .slice A4 q.games.length c4, .int .i64 q.club, .int .i64 q.place] #[.int .i64 kd, .slice B1 re.length d1, .slice B2 mi.length d2, .slice B3 cu.length d3] 53 28
  rw [hW0]
  clear hW0
  obtain ⟨lx, cx, fx⟩ := id X0
  obtain ⟨lv, cv, fv⟩ := id V0
  repeat (first | (with_reducible refine Seg.plainB ?_) | go_step)
  repeat (first
    | (refine' Seg.pick_or (b := _) (x := _) (c := _) (y := _) rfl rfl rfl rfl ?_; simp only [Act.put, List.setIfInBounds_toArray, List.set_cons_zero, List.set_cons_succ])
    | (refine' Seg.pick_and (b := _) (x := _) (c := _) (y := _) rfl rfl rfl rfl ?_; simp only [Act.put, List.setIfInBounds_toArray, List.set_cons_zero, List.set_cons_succ])
    | (refine' Seg.val (v := _) rfl (fun w' hw => ?_) ?_; rotate_left 1; (obtain ⟨hbc, _⟩ := bcell hw; go_simp; rfl); simp only [Act.put, List.setIfInBounds_toArray, List.set_cons_zero, List.set_cons_succ])
    | (refine' Seg.skip ?_ ?_; (focus (first | (rw [Seg.wanted1 rfl rfl]; simp; done) | (rw [Seg.wanted2 rfl rfl]; simp; done))); simp only [Act.put, List.setIfInBounds_toArray, List.set_cons_zero, List.set_cons_succ])
    | (refine' Seg.pick_or_if (b := _) (x := _) (G := _) (c := _) (y := _) (by first | exact Seg.wanted1 rfl rfl | exact Seg.wanted2 rfl rfl) rfl rfl rfl ?_; simp only [Act.put, List.setIfInBounds_toArray, List.set_cons_zero, List.set_cons_succ])
    | (refine' Seg.pick_and_if (b := _) (x := _) (G := _) (c := _) (y := _) (by first | exact Seg.wanted1 rfl rfl | exact Seg.wanted2 rfl rfl) rfl rfl rfl ?_; simp only [Act.put, List.setIfInBounds_toArray, List.set_cons_zero, List.set_cons_succ])
    | (refine' Seg.val_if (v := _) (G := _) (by first | exact Seg.wanted1 rfl rfl | exact Seg.wanted2 rfl rfl) (fun hb w' hw => ?_) ?_; rotate_left 1; (simp only [Bool.and_eq_true, beq_iff_eq] at hb; obtain ⟨hbc, _⟩ := bcell hw; go_simp; rfl); simp only [Act.put, List.setIfInBounds_toArray, List.set_cons_zero, List.set_cons_succ]))
  refine' Seg.call_if (v := _) (G := _) (f := _) (args := _) (by first | exact Seg.wanted1 rfl rfl | exact Seg.wanted2 rfl rfl) (fun hb w' => ?_) (fun hb w' hw => callB hw (byFlow_any ⟨q, A2, c2, A3, c3, A4, c4⟩ w' hg)) ?_
  · simp only [Bool.and_eq_true, beq_iff_eq] at hb
    go_simp
  simp only [Act.put, List.setIfInBounds_toArray, List.set_cons_zero, List.set_cons_succ]
  repeat (first
    | (refine' Seg.pick_or (b := _) (x := _) (c := _) (y := _) rfl rfl rfl rfl ?_; simp only [Act.put, List.setIfInBounds_toArray, List.set_cons_zero, List.set_cons_succ])
    | (refine' Seg.pick_and (b := _) (x := _) (c := _) (y := _) rfl rfl rfl rfl ?_; simp only [Act.put, List.setIfInBounds_toArray, List.set_cons_zero, List.set_cons_succ])
    | (refine' Seg.val (v := _) rfl (fun w' hw => ?_) ?_; rotate_left 1; (obtain ⟨hbc, _⟩ := bcell hw; go_simp; rfl); simp only [Act.put, List.setIfInBounds_toArray, List.set_cons_zero, List.set_cons_succ])
    | (refine' Seg.skip ?_ ?_; (focus (first | (rw [Seg.wanted1 rfl rfl]; simp; done) | (rw [Seg.wanted2 rfl rfl]; simp; done))); simp only [Act.put, List.setIfInBounds_toArray, List.set_cons_zero, List.set_cons_succ])
    | (refine' Seg.pick_or_if (b := _) (x := _) (G := _) (c := _) (y := _) (by first | exact Seg.wanted1 rfl rfl | exact Seg.wanted2 rfl rfl) rfl rfl rfl ?_; simp only [Act.put, List.setIfInBounds_toArray, List.set_cons_zero, List.set_cons_succ])
    | (refine' Seg.pick_and_if (b := _) (x := _) (G := _) (c := _) (y := _) (by first | exact Seg.wanted1 rfl rfl | exact Seg.wanted2 rfl rfl) rfl rfl rfl ?_; simp only [Act.put, List.setIfInBounds_toArray, List.set_cons_zero, List.set_cons_succ])
    | (refine' Seg.val_if (v := _) (G := _) (by first | exact Seg.wanted1 rfl rfl | exact Seg.wanted2 rfl rfl) (fun hb w' hw => ?_) ?_; rotate_left 1; (simp only [Bool.and_eq_true, beq_iff_eq] at hb; obtain ⟨hbc, _⟩ := bcell hw; go_simp; rfl); simp only [Act.put, List.setIfInBounds_toArray, List.set_cons_zero, List.set_cons_succ]))
  refine' Seg.call_if (v := _) (G := _) (f := _) (args := _) (by first | exact Seg.wanted1 rfl rfl | exact Seg.wanted2 rfl rfl) (fun hb w' => ?_) (fun hb w' hw => callB hw (bySearch_any ⟨q, A2, c2, A3, c3, A4, c4⟩ w')) ?_
  · simp only [Bool.and_eq_true, beq_iff_eq] at hb
    go_simp
  simp only [Act.put, List.setIfInBounds_toArray, List.set_cons_zero, List.set_cons_succ]
  repeat (first
    | (refine' Seg.pick_or (b := _) (x := _) (c := _) (y := _) rfl rfl rfl rfl ?_; simp only [Act.put, List.setIfInBounds_toArray, List.set_cons_zero, List.set_cons_succ])
    | (refine' Seg.pick_and (b := _) (x := _) (c := _) (y := _) rfl rfl rfl rfl ?_; simp only [Act.put, List.setIfInBounds_toArray, List.set_cons_zero, List.set_cons_succ])
    | (refine' Seg.val (v := _) rfl (fun w' hw => ?_) ?_; rotate_left 1; (obtain ⟨hbc, _⟩ := bcell hw; go_simp; rfl); simp only [Act.put, List.setIfInBounds_toArray, List.set_cons_zero, List.set_cons_succ])
    | (refine' Seg.skip ?_ ?_; (focus (first | (rw [Seg.wanted1 rfl rfl]; simp; done) | (rw [Seg.wanted2 rfl rfl]; simp; done))); simp only [Act.put, List.setIfInBounds_toArray, List.set_cons_zero, List.set_cons_succ])
    | (refine' Seg.pick_or_if (b := _) (x := _) (G := _) (c := _) (y := _) (by first | exact Seg.wanted1 rfl rfl | exact Seg.wanted2 rfl rfl) rfl rfl rfl ?_; simp only [Act.put, List.setIfInBounds_toArray, List.set_cons_zero, List.set_cons_succ])
    | (refine' Seg.pick_and_if (b := _) (x := _) (G := _) (c := _) (y := _) (by first | exact Seg.wanted1 rfl rfl | exact Seg.wanted2 rfl rfl) rfl rfl rfl ?_; simp only [Act.put, List.setIfInBounds_toArray, List.set_cons_zero, List.set_cons_succ])
    | (refine' Seg.val_if (v := _) (G := _) (by first | exact Seg.wanted1 rfl rfl | exact Seg.wanted2 rfl rfl) (fun hb w' hw => ?_) ?_; rotate_left 1; (simp only [Bool.and_eq_true, beq_iff_eq] at hb; obtain ⟨hbc, _⟩ := bcell hw; go_simp; rfl); simp only [Act.put, List.setIfInBounds_toArray, List.set_cons_zero, List.set_cons_succ]))
  refine Seg.doneB (fun w3 hw3 => ?_)
  go_wp2
  go_ret
  exact ⟨rfl, bthen hB0 hw3⟩
end Go.Proofs.Ytfmekjpmjefpmaa

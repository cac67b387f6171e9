/- ref.Reached and ref.Missed, walked. -/
import Derived.Test.YtfmekjpmjefpmaaRa
import Derived.Test.YtfmekjpmjefpmaaRb
import Derived.Test.YtfmekjpmjefpmaaSeg3
set_option linter.unusedSimpArgs false
set_option linter.unusedVariables false
namespace Go.Proofs.Ytfmekjpmjefpmaa
open Go.RowKit

theorem complB_bad (q : Race) (o : List Int) : complB q o = !badArg q o := by
  unfold complB badArg
  rw [Bool.not_or, Bool.and_comm]
  congr 1
  · cases h : ((o.length : Int) == q.games.length) <;> simp_all [bne]
  · cases h : o.any badOut with
    | true =>
      obtain ⟨i, hi, hb⟩ := any_rd.1 h
      exact decide_eq_false fun h' => by rw [h' i hi] at hb; cases hb
    | false =>
      refine decide_eq_true fun i hi => ?_
      cases hb : badOut (rd o i) with
      | false => rfl
      | true => rw [any_rd.2 ⟨i, hi, hb⟩] at h; cases h
theorem compl13 {q : Race} {o : List Int} (h : badArg q o = false) : o.length = q.games.length ∧ ∀ i, i < o.length → 1 ≤ rd o i ∧ rd o i ≤ 3 := by
  refine ⟨badArg_len h, fun i hi => ?_⟩
  simp only [badArg, Bool.or_eq_false_iff, List.any_eq_false] at h
  have := h.2 (rd o i) (mem_rd.2 ⟨i, hi, rfl⟩)
  simp [badOut] at this
  omega

set_option maxHeartbeats 4000000 in
set_option maxRecDepth 100000 in
theorem rreached_any (m : RaceM) (B : Option Addr) (d : Nat) (o : List Int) (w : World) (hq : RaceIn w m) (ho : Row (Kd.int .i64) w B o) :
    Calls Try.prog 42 #[m.v, .slice B o.length d] w fun e w' => e = .returned (.int .i64 (reachedOf m.q o)) ∧ Below w.heap.size w w' := by
  obtain ⟨q, A2, c2, A3, c3, A4, c4⟩ := m
  dsimp only [RaceM.v] at *
  generalize hres : (Ending.returned (.int .i64 (reachedOf q o))) = R
  have HRes := Lib.hid hres
  clear hres
  go_enter Try.func42, Try.ntmps42
  go_upto_region 1 with (fail)
  obtain ⟨W0, hW0, hB0, X0⟩ := box1 w #[.int .i64 q.win, .int .i64 q.draw, .slice A2 q.clubs.length c2, .slice A3 q.points.length c3, .slice A4 q.games.length c4, .int .i64 q.club, .int .i64 q.place] 25
  rw [hW0]
  clear hW0
  have hq0 := hq.below hB0
  have ho0 := ho.below hB0
  obtain ⟨lx, cx, fx⟩ := id X0
  have hval := refValid_any ⟨q, A2, c2, A3, c3, A4, c4⟩ W0 hq0
  dsimp only [RaceM.v] at hval
  cases hv : validB q
  · have hv' := Lib.hid hv
    rw [hv] at hval
    clear hv
    replace hval := Lib.hid hval
    go_wp2_with (go_at_call 13; refine hval.out.mono ?_; rintro e w' ⟨rfl, hb9⟩)
    go_ret
    refine ⟨?_, bthen hB0 hb9⟩
    rw [← HRes.out, reachedOf, complOf, hv'.out]
    rfl
  · have hv' := Lib.hid hv
    have HG := Lib.hid (good_of hv)
    rw [hv] at hval
    clear hv
    replace hval := Lib.hid hval
    have hcom := fun w1 (hb : Below W0.heap.size W0 w1) => rcompletion_any ⟨q, A2, c2, A3, c3, A4, c4⟩ B d o w1 (ho0.below hb)
    dsimp only [RaceM.v] at hcom
    rw [complB_bad] at hcom
    cases ha : badArg q o
    · have ha' := Lib.hid ha
      rw [ha] at hcom
      clear ha
      replace hcom := Lib.hid hcom
      go_upto_region 5 with (first | (go_at_call 13; refine hval.out.mono ?_; rintro e w1 ⟨rfl, hb1⟩; obtain ⟨lx, cx, fx⟩ := X0.below hb1) | (go_at_call 70; refine (hcom.out _ hb1).mono ?_; rintro e w2 ⟨rfl, hb2⟩))
      clear lx cx fx
      have hb3 := bthen hb1 hb2
      obtain ⟨lx, cx, fx⟩ := X0.below hb3
      refine Seg2.region3 3 5 (by kernel_rfl) (by kernel_rfl) (by kernel_rfl) (by kernel_rfl) ?_
      repeat (first
        | (refine' Seg2.pick_or (b := _) (x := _) (c := _) (y := _) rfl rfl rfl rfl ?_; simp only [Act.put, List.setIfInBounds_toArray, List.set_cons_zero, List.set_cons_succ])
        | (refine' Seg2.pick_and (b := _) (x := _) (c := _) (y := _) rfl rfl rfl rfl ?_; simp only [Act.put, List.setIfInBounds_toArray, List.set_cons_zero, List.set_cons_succ])
        | (refine' Seg2.val (v := _) rfl (fun w' hw => ?_) ?_; rotate_left 1; (obtain ⟨hbc, _⟩ := bcell hw; go_simp; rfl); simp only [Act.put, List.setIfInBounds_toArray, List.set_cons_zero, List.set_cons_succ])
        | (refine' Seg2.skip ?_ ?_; (focus (first | (rw [Seg.wanted1 rfl rfl]; simp; done) | (rw [Seg.wanted2 rfl rfl]; simp; done))); simp only [Act.put, List.setIfInBounds_toArray, List.set_cons_zero, List.set_cons_succ])
        | (refine' Seg2.pick_or_if (b := _) (x := _) (G := _) (c := _) (y := _) (by first | exact Seg.wanted1 rfl rfl | exact Seg.wanted2 rfl rfl) rfl rfl rfl ?_; simp only [Act.put, List.setIfInBounds_toArray, List.set_cons_zero, List.set_cons_succ])
        | (refine' Seg2.pick_and_if (b := _) (x := _) (G := _) (c := _) (y := _) (by first | exact Seg.wanted1 rfl rfl | exact Seg.wanted2 rfl rfl) rfl rfl rfl ?_; simp only [Act.put, List.setIfInBounds_toArray, List.set_cons_zero, List.set_cons_succ])
        | (refine' Seg2.val_if (v := _) (G := _) (by first | exact Seg.wanted1 rfl rfl | exact Seg.wanted2 rfl rfl) (fun hb w' hw => ?_) ?_; rotate_left 1; (simp only [Bool.and_eq_true, beq_iff_eq] at hb; obtain ⟨hbc, _⟩ := bcell hw; go_simp; rfl); simp only [Act.put, List.setIfInBounds_toArray, List.set_cons_zero, List.set_cons_succ]))
      refine Seg2.done (Seg2.specT_cons (by simp [Region.wanted]) (fun w7 hb7 => ?_))
      have hb07 := bthen hb3 hb7
      refine Seg2.some_call (f := 71) (args := #[.agg #[.int .i64 q.win, .int .i64 q.draw, .slice A2 q.clubs.length c2, .slice A3 q.points.length c3, .slice A4 q.games.length c4, .int .i64 q.club, .int .i64 q.place], .slice B o.length d]) (w := w7) (by go_simp) ((rfinals_any ⟨q, A2, c2, A3, c3, A4, c4⟩ B d o w7 (hq0.below hb07) (ho0.below hb07) (compl13 ha'.out).1 (compl13 ha'.out).2 HG.out).mono ?_)
      rintro e w8 ⟨C, cap, rfl, hO, hb8⟩
      refine ⟨_, rfl, bthen hb7 hb8, ?_⟩
      simp only [Act.put, List.setIfInBounds_toArray, List.set_cons_zero, List.set_cons_succ]
      have hb08 := bthen hb07 hb8
      refine Seg2.specT_cons (by simp [Region.wanted]) (fun w9 hb9 => ?_)
      have hpl : (after q o).length = q.points.length := afterTo_len q _ _
      refine Seg2.some_call (f := 14) (args := #[.agg #[.int .i64 q.win, .int .i64 q.draw, .slice A2 q.clubs.length c2, .slice A3 q.points.length c3, .slice A4 q.games.length c4, .int .i64 q.club, .int .i64 q.place], .slice C (after q o).length cap]) (w := w9) (by go_simp) ((refAbove_any ⟨q, A2, c2, A3, c3, A4, c4⟩ C cap (after q o) w9 (hO.row.below hb9) HG.out hpl).mono ?_)
      dsimp only
      have hmore : moreTo q (after q o) (after q o).length = more q o := by rw [hpl, more]
      have hmany : manyTo q (after q o) (after q o).length = many q o := by rw [hpl, many]
      rw [hmore, hmany]
      clear hpl hmore hmany
      rintro e w10 ⟨rfl, hb10⟩
      have hb010 := bthen (bthen hb08 hb9) hb10
      refine ⟨_, rfl, bthen (bthen (bthen hb7 hb8) hb9) hb10, ?_⟩
      simp only [Act.put, List.setIfInBounds_toArray, List.set_cons_zero, List.set_cons_succ]
      refine Seg2.specT_nil (fun w12 hb12 => ?_)
      simp only [List.drop]
      repeat (first
        | (refine' Seg2.pick_or (b := _) (x := _) (c := _) (y := _) rfl rfl rfl rfl ?_; simp only [Act.put, List.setIfInBounds_toArray, List.set_cons_zero, List.set_cons_succ])
        | (refine' Seg2.pick_and (b := _) (x := _) (c := _) (y := _) rfl rfl rfl rfl ?_; simp only [Act.put, List.setIfInBounds_toArray, List.set_cons_zero, List.set_cons_succ])
        | (refine' Seg2.val (v := _) rfl (fun w' hw => ?_) ?_; rotate_left 1; (obtain ⟨hbc, _⟩ := bcell hw; go_simp; rfl); simp only [Act.put, List.setIfInBounds_toArray, List.set_cons_zero, List.set_cons_succ])
        | (refine' Seg2.skip ?_ ?_; (focus (first | (rw [Seg.wanted1 rfl rfl]; simp; done) | (rw [Seg.wanted2 rfl rfl]; simp; done))); simp only [Act.put, List.setIfInBounds_toArray, List.set_cons_zero, List.set_cons_succ])
        | (refine' Seg2.pick_or_if (b := _) (x := _) (G := _) (c := _) (y := _) (by first | exact Seg.wanted1 rfl rfl | exact Seg.wanted2 rfl rfl) rfl rfl rfl ?_; simp only [Act.put, List.setIfInBounds_toArray, List.set_cons_zero, List.set_cons_succ])
        | (refine' Seg2.pick_and_if (b := _) (x := _) (G := _) (c := _) (y := _) (by first | exact Seg.wanted1 rfl rfl | exact Seg.wanted2 rfl rfl) rfl rfl rfl ?_; simp only [Act.put, List.setIfInBounds_toArray, List.set_cons_zero, List.set_cons_succ])
        | (refine' Seg2.val_if (v := _) (G := _) (by first | exact Seg.wanted1 rfl rfl | exact Seg.wanted2 rfl rfl) (fun hb w' hw => ?_) ?_; rotate_left 1; (simp only [Bool.and_eq_true, beq_iff_eq] at hb; obtain ⟨hbc, _⟩ := bcell hw; go_simp; rfl); simp only [Act.put, List.setIfInBounds_toArray, List.set_cons_zero, List.set_cons_succ]))
      refine Seg2.done (fun w11 hb13 => ?_)
      have hb011 := bthen hb010 (bthen hb12 hb13)
      clear lx cx fx
      obtain ⟨lx, cx, fx⟩ := X0.below hb011
      have hp0 := HG.out.p0
      have hp1 : q.place ≤ 24 := by have := HG.out.p1; have := HG.out.n1; omega
      have hBw := bthen hB0 hb011
      go_wp2
      all_goals
        rename_i hc
        go_ret
        refine ⟨?_, hBw⟩
        rw [← HRes.out, reachedOf, complOf, hv'.out, ha'.out]
        first
          | (rw [if_pos (show (if true = true then (if false = true then (1 : Int) else 0) else 280) = 0 from rfl), if_pos (by omega)]; rfl)
          | (rw [if_pos (show (if true = true then (if false = true then (1 : Int) else 0) else 280) = 0 from rfl), if_neg (by omega)]; rfl)
    · have ha' := Lib.hid ha
      rw [ha] at hcom
      clear ha
      replace hcom := Lib.hid hcom
      go_wp2_with (first | (go_at_call 13; refine hval.out.mono ?_; rintro e w1 ⟨rfl, hb1⟩; obtain ⟨lx, cx, fx⟩ := X0.below hb1) | (go_at_call 70; refine (hcom.out _ hb1).mono ?_; rintro e w2 ⟨rfl, hb2⟩))
      go_ret
      refine ⟨?_, bthen hB0 (bthen hb1 hb2)⟩
      rw [← HRes.out, reachedOf, complOf, hv'.out, ha'.out]
      rfl

set_option maxHeartbeats 4000000 in
set_option maxRecDepth 100000 in
theorem rmissed_any (m : RaceM) (B : Option Addr) (d : Nat) (o : List Int) (w : World) (hq : RaceIn w m) (ho : Row (Kd.int .i64) w B o) :
    Calls Try.prog 43 #[m.v, .slice B o.length d] w fun e w' => e = .returned (.int .i64 (missedOf m.q o)) ∧ Below w.heap.size w w' := by
  obtain ⟨q, A2, c2, A3, c3, A4, c4⟩ := m
  dsimp only [RaceM.v] at *
  generalize hres : (Ending.returned (.int .i64 (missedOf q o))) = R
  have HRes := Lib.hid hres
  clear hres
  go_enter Try.func43, Try.ntmps43
  go_upto_region 1 with (fail)
  obtain ⟨W0, hW0, hB0, X0⟩ := box1 w #[.int .i64 q.win, .int .i64 q.draw, .slice A2 q.clubs.length c2, .slice A3 q.points.length c3, .slice A4 q.games.length c4, .int .i64 q.club, .int .i64 q.place] 25
  rw [hW0]
  clear hW0
  have hq0 := hq.below hB0
  have ho0 := ho.below hB0
  obtain ⟨lx, cx, fx⟩ := id X0
  have hval := refValid_any ⟨q, A2, c2, A3, c3, A4, c4⟩ W0 hq0
  dsimp only [RaceM.v] at hval
  cases hv : validB q
  · have hv' := Lib.hid hv
    rw [hv] at hval
    clear hv
    replace hval := Lib.hid hval
    go_wp2_with (go_at_call 13; refine hval.out.mono ?_; rintro e w' ⟨rfl, hb9⟩)
    go_ret
    refine ⟨?_, bthen hB0 hb9⟩
    rw [← HRes.out, missedOf, complOf, hv'.out]
    rfl
  · have hv' := Lib.hid hv
    have HG := Lib.hid (good_of hv)
    rw [hv] at hval
    clear hv
    replace hval := Lib.hid hval
    have hcom := fun w1 (hb : Below W0.heap.size W0 w1) => rcompletion_any ⟨q, A2, c2, A3, c3, A4, c4⟩ B d o w1 (ho0.below hb)
    dsimp only [RaceM.v] at hcom
    rw [complB_bad] at hcom
    cases ha : badArg q o
    · have ha' := Lib.hid ha
      rw [ha] at hcom
      clear ha
      replace hcom := Lib.hid hcom
      go_upto_region 5 with (first | (go_at_call 13; refine hval.out.mono ?_; rintro e w1 ⟨rfl, hb1⟩; obtain ⟨lx, cx, fx⟩ := X0.below hb1) | (go_at_call 70; refine (hcom.out _ hb1).mono ?_; rintro e w2 ⟨rfl, hb2⟩))
      clear lx cx fx
      have hb3 := bthen hb1 hb2
      obtain ⟨lx, cx, fx⟩ := X0.below hb3
      refine Seg2.region3 3 5 (by kernel_rfl) (by kernel_rfl) (by kernel_rfl) (by kernel_rfl) ?_
      repeat (first
        | (refine' Seg2.pick_or (b := _) (x := _) (c := _) (y := _) rfl rfl rfl rfl ?_; simp only [Act.put, List.setIfInBounds_toArray, List.set_cons_zero, List.set_cons_succ])
        | (refine' Seg2.pick_and (b := _) (x := _) (c := _) (y := _) rfl rfl rfl rfl ?_; simp only [Act.put, List.setIfInBounds_toArray, List.set_cons_zero, List.set_cons_succ])
        | (refine' Seg2.val (v := _) rfl (fun w' hw => ?_) ?_; rotate_left 1; (obtain ⟨hbc, _⟩ := bcell hw; go_simp; rfl); simp only [Act.put, List.setIfInBounds_toArray, List.set_cons_zero, List.set_cons_succ])
        | (refine' Seg2.skip ?_ ?_; (focus (first | (rw [Seg.wanted1 rfl rfl]; simp; done) | (rw [Seg.wanted2 rfl rfl]; simp; done))); simp only [Act.put, List.setIfInBounds_toArray, List.set_cons_zero, List.set_cons_succ])
        | (refine' Seg2.pick_or_if (b := _) (x := _) (G := _) (c := _) (y := _) (by first | exact Seg.wanted1 rfl rfl | exact Seg.wanted2 rfl rfl) rfl rfl rfl ?_; simp only [Act.put, List.setIfInBounds_toArray, List.set_cons_zero, List.set_cons_succ])
        | (refine' Seg2.pick_and_if (b := _) (x := _) (G := _) (c := _) (y := _) (by first | exact Seg.wanted1 rfl rfl | exact Seg.wanted2 rfl rfl) rfl rfl rfl ?_; simp only [Act.put, List.setIfInBounds_toArray, List.set_cons_zero, List.set_cons_succ])
        | (refine' Seg2.val_if (v := _) (G := _) (by first | exact Seg.wanted1 rfl rfl | exact Seg.wanted2 rfl rfl) (fun hb w' hw => ?_) ?_; rotate_left 1; (simp only [Bool.and_eq_true, beq_iff_eq] at hb; obtain ⟨hbc, _⟩ := bcell hw; go_simp; rfl); simp only [Act.put, List.setIfInBounds_toArray, List.set_cons_zero, List.set_cons_succ]))
      refine Seg2.done (Seg2.specT_cons (by simp [Region.wanted]) (fun w7 hb7 => ?_))
      have hb07 := bthen hb3 hb7
      refine Seg2.some_call (f := 71) (args := #[.agg #[.int .i64 q.win, .int .i64 q.draw, .slice A2 q.clubs.length c2, .slice A3 q.points.length c3, .slice A4 q.games.length c4, .int .i64 q.club, .int .i64 q.place], .slice B o.length d]) (w := w7) (by go_simp) ((rfinals_any ⟨q, A2, c2, A3, c3, A4, c4⟩ B d o w7 (hq0.below hb07) (ho0.below hb07) (compl13 ha'.out).1 (compl13 ha'.out).2 HG.out).mono ?_)
      rintro e w8 ⟨C, cap, rfl, hO, hb8⟩
      refine ⟨_, rfl, bthen hb7 hb8, ?_⟩
      simp only [Act.put, List.setIfInBounds_toArray, List.set_cons_zero, List.set_cons_succ]
      have hb08 := bthen hb07 hb8
      refine Seg2.specT_cons (by simp [Region.wanted]) (fun w9 hb9 => ?_)
      have hpl : (after q o).length = q.points.length := afterTo_len q _ _
      refine Seg2.some_call (f := 14) (args := #[.agg #[.int .i64 q.win, .int .i64 q.draw, .slice A2 q.clubs.length c2, .slice A3 q.points.length c3, .slice A4 q.games.length c4, .int .i64 q.club, .int .i64 q.place], .slice C (after q o).length cap]) (w := w9) (by go_simp) ((refAbove_any ⟨q, A2, c2, A3, c3, A4, c4⟩ C cap (after q o) w9 (hO.row.below hb9) HG.out hpl).mono ?_)
      dsimp only
      have hmore : moreTo q (after q o) (after q o).length = more q o := by rw [hpl, more]
      have hmany : manyTo q (after q o) (after q o).length = many q o := by rw [hpl, many]
      rw [hmore, hmany]
      clear hpl hmore hmany
      rintro e w10 ⟨rfl, hb10⟩
      have hb010 := bthen (bthen hb08 hb9) hb10
      refine ⟨_, rfl, bthen (bthen (bthen hb7 hb8) hb9) hb10, ?_⟩
      simp only [Act.put, List.setIfInBounds_toArray, List.set_cons_zero, List.set_cons_succ]
      refine Seg2.specT_nil (fun w12 hb12 => ?_)
      simp only [List.drop]
      repeat (first
        | (refine' Seg2.pick_or (b := _) (x := _) (c := _) (y := _) rfl rfl rfl rfl ?_; simp only [Act.put, List.setIfInBounds_toArray, List.set_cons_zero, List.set_cons_succ])
        | (refine' Seg2.pick_and (b := _) (x := _) (c := _) (y := _) rfl rfl rfl rfl ?_; simp only [Act.put, List.setIfInBounds_toArray, List.set_cons_zero, List.set_cons_succ])
        | (refine' Seg2.val (v := _) rfl (fun w' hw => ?_) ?_; rotate_left 1; (obtain ⟨hbc, _⟩ := bcell hw; go_simp; rfl); simp only [Act.put, List.setIfInBounds_toArray, List.set_cons_zero, List.set_cons_succ])
        | (refine' Seg2.skip ?_ ?_; (focus (first | (rw [Seg.wanted1 rfl rfl]; simp; done) | (rw [Seg.wanted2 rfl rfl]; simp; done))); simp only [Act.put, List.setIfInBounds_toArray, List.set_cons_zero, List.set_cons_succ])
        | (refine' Seg2.pick_or_if (b := _) (x := _) (G := _) (c := _) (y := _) (by first | exact Seg.wanted1 rfl rfl | exact Seg.wanted2 rfl rfl) rfl rfl rfl ?_; simp only [Act.put, List.setIfInBounds_toArray, List.set_cons_zero, List.set_cons_succ])
        | (refine' Seg2.pick_and_if (b := _) (x := _) (G := _) (c := _) (y := _) (by first | exact Seg.wanted1 rfl rfl | exact Seg.wanted2 rfl rfl) rfl rfl rfl ?_; simp only [Act.put, List.setIfInBounds_toArray, List.set_cons_zero, List.set_cons_succ])
        | (refine' Seg2.val_if (v := _) (G := _) (by first | exact Seg.wanted1 rfl rfl | exact Seg.wanted2 rfl rfl) (fun hb w' hw => ?_) ?_; rotate_left 1; (simp only [Bool.and_eq_true, beq_iff_eq] at hb; obtain ⟨hbc, _⟩ := bcell hw; go_simp; rfl); simp only [Act.put, List.setIfInBounds_toArray, List.set_cons_zero, List.set_cons_succ]))
      refine Seg2.done (fun w11 hb13 => ?_)
      have hb011 := bthen hb010 (bthen hb12 hb13)
      clear lx cx fx
      obtain ⟨lx, cx, fx⟩ := X0.below hb011
      have hp0 := HG.out.p0
      have hp1 : q.place ≤ 24 := by have := HG.out.p1; have := HG.out.n1; omega
      have hBw := bthen hB0 hb011
      go_wp2
      all_goals
        rename_i hc
        go_ret
        refine ⟨?_, hBw⟩
        rw [← HRes.out, missedOf, complOf, hv'.out, ha'.out]
        first
          | (rw [if_pos (show (if true = true then (if false = true then (1 : Int) else 0) else 280) = 0 from rfl), if_pos (by omega)]; rfl)
          | (rw [if_pos (show (if true = true then (if false = true then (1 : Int) else 0) else 280) = 0 from rfl), if_neg (by omega)]; rfl)
    · have ha' := Lib.hid ha
      rw [ha] at hcom
      clear ha
      replace hcom := Lib.hid hcom
      go_wp2_with (first | (go_at_call 13; refine hval.out.mono ?_; rintro e w1 ⟨rfl, hb1⟩; obtain ⟨lx, cx, fx⟩ := X0.below hb1) | (go_at_call 70; refine (hcom.out _ hb1).mono ?_; rintro e w2 ⟨rfl, hb2⟩))
      go_ret
      refine ⟨?_, bthen hB0 (bthen hb1 hb2)⟩
      rw [← HRes.out, missedOf, complOf, hv'.out, ha'.out]
      rfl
end Go.Proofs.Ytfmekjpmjefpmaa

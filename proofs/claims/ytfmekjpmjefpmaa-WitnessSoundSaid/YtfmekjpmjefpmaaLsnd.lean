/- The law WitnessSound, walked. -/
import Derived.Test.YtfmekjpmjefpmaaLone
import Derived.Test.YtfmekjpmjefpmaaSeg3
set_option linter.unusedSimpArgs false
set_option linter.unusedVariables false
namespace Go.Proofs.Ytfmekjpmjefpmaa
open Go.RowKit

set_option maxHeartbeats 8000000 in
set_option maxRecDepth 100000 in
theorem lawSound_any (m : RaceM) (v : VerdictM) (B : Option Addr) (d : Nat) (ou : List Int) (w : World) (hq : RaceIn w m) (hv : VerdictIn w v) (bv : VBound v.v) (cv : v.v.cuts.length ≤ v.c3) (ho : Row (Kd.int .u8) w B ou) :
    Calls Try.prog 4 #[m.v, v.val, .slice B ou.length d] w fun e w' => e = .returned (.bool true) ∧ Below w.heap.size w w' := by
  obtain ⟨q, A2, c2, A3, c3, A4, c4⟩ := m
  obtain ⟨⟨kd, re, mi, cs⟩, B1, d1, B2, d2, B3, d3⟩ := v
  dsimp only [RaceM.v, VerdictM.val] at *
  go_enter Try.func4, Try.ntmps4
  go_upto_region 1 with (fail)
  obtain ⟨W0, hW0, hB0, X0, V0⟩ := box2 w #[.int .i64 q.win, .int .i64 q.draw, .slice A2 q.clubs.length c2, .slice A3 q.points.length c3, .slice A4 q.games.length c4, .int .i64 q.club, .int .i64 q.place] #[.int .i64 kd, .slice B1 re.length d1, .slice B2 mi.length d2, .slice B3 cs.length d3] 25 28
  rw [hW0]
  clear hW0
  have hq0 := hq.below hB0
  have hv0 := hv.below hB0
  go_upto_region 3 with (go_at_call 8; refine (sane_any _).mono ?_; rintro e w1 ⟨rfl, hb1⟩)
  obtain ⟨lx, cx, fx⟩ := X0.below hb1
  obtain ⟨lv, kv, fv⟩ := V0.below hb1
  have hq1 := hq0.below hb1
  have hv1 := hv0.below hb1
  repeat (first | (with_reducible refine Seg.plainB ?_) | go_step)
  repeat (first
    | (refine' Seg.pick_or (b := _) (x := _) (c := _) (y := _) rfl rfl rfl rfl ?_; simp only [Act.put, List.setIfInBounds_toArray, List.set_cons_zero, List.set_cons_succ])
    | (refine' Seg.pick_and (b := _) (x := _) (c := _) (y := _) rfl rfl rfl rfl ?_; simp only [Act.put, List.setIfInBounds_toArray, List.set_cons_zero, List.set_cons_succ])
    | (refine' Seg.val (v := _) rfl (fun w' hw => ?_) ?_; rotate_left 1; (obtain ⟨hbc, _⟩ := bcell hw; go_simp; rfl); simp only [Act.put, List.setIfInBounds_toArray, List.set_cons_zero, List.set_cons_succ])
    | (refine' Seg.skip ?_ ?_; (focus (first | (rw [Seg.wanted1 rfl rfl]; simp; done) | (rw [Seg.wanted2 rfl rfl]; simp; done))); simp only [Act.put, List.setIfInBounds_toArray, List.set_cons_zero, List.set_cons_succ])
    | (refine' Seg.pick_or_if (b := _) (x := _) (G := _) (c := _) (y := _) (by first | exact Seg.wanted1 rfl rfl | exact Seg.wanted2 rfl rfl) rfl rfl rfl ?_; simp only [Act.put, List.setIfInBounds_toArray, List.set_cons_zero, List.set_cons_succ])
    | (refine' Seg.pick_and_if (b := _) (x := _) (G := _) (c := _) (y := _) (by first | exact Seg.wanted1 rfl rfl | exact Seg.wanted2 rfl rfl) rfl rfl rfl ?_; simp only [Act.put, List.setIfInBounds_toArray, List.set_cons_zero, List.set_cons_succ])
    | (refine' Seg.val_if (v := _) (G := _) (by first | exact Seg.wanted1 rfl rfl | exact Seg.wanted2 rfl rfl) (fun hb w' hw => ?_) ?_; rotate_left 1; (simp only [Bool.and_eq_true, beq_iff_eq] at hb; obtain ⟨hbc, _⟩ := bcell hw; go_simp; rfl); simp only [Act.put, List.setIfInBounds_toArray, List.set_cons_zero, List.set_cons_succ]))
  refine' Seg.call (v := _) (f := _) (args := _) rfl (fun w' => ?_) (fun w' hw => callB hw (few_any ⟨q, A2, c2, A3, c3, A4, c4⟩ w')) ?_
  · go_simp
  simp only [Act.put, List.setIfInBounds_toArray, List.set_cons_zero, List.set_cons_succ]
  repeat (first
    | (refine' Seg.pick_or (b := _) (x := _) (c := _) (y := _) rfl rfl rfl rfl ?_; simp only [Act.put, List.setIfInBounds_toArray, List.set_cons_zero, List.set_cons_succ])
    | (refine' Seg.pick_and (b := _) (x := _) (c := _) (y := _) rfl rfl rfl rfl ?_; simp only [Act.put, List.setIfInBounds_toArray, List.set_cons_zero, List.set_cons_succ])
    | (refine' Seg.val (v := _) rfl (fun w' hw => ?_) ?_; rotate_left 1; (obtain ⟨hbc, _⟩ := bcell hw; go_simp; rfl); simp only [Act.put, List.setIfInBounds_toArray, List.set_cons_zero, List.set_cons_succ])
    | (refine' Seg.skip ?_ ?_; (focus (first | (rw [Seg.wanted1 rfl rfl]; simp; done) | (rw [Seg.wanted2 rfl rfl]; simp; done))); simp only [Act.put, List.setIfInBounds_toArray, List.set_cons_zero, List.set_cons_succ])
    | (refine' Seg.pick_or_if (b := _) (x := _) (G := _) (c := _) (y := _) (by first | exact Seg.wanted1 rfl rfl | exact Seg.wanted2 rfl rfl) rfl rfl rfl ?_; simp only [Act.put, List.setIfInBounds_toArray, List.set_cons_zero, List.set_cons_succ])
    | (refine' Seg.pick_and_if (b := _) (x := _) (G := _) (c := _) (y := _) (by first | exact Seg.wanted1 rfl rfl | exact Seg.wanted2 rfl rfl) rfl rfl rfl ?_; simp only [Act.put, List.setIfInBounds_toArray, List.set_cons_zero, List.set_cons_succ])
    | (refine' Seg.val_if (v := _) (G := _) (by first | exact Seg.wanted1 rfl rfl | exact Seg.wanted2 rfl rfl) (fun hb w' hw => ?_) ?_; rotate_left 1; (simp only [Bool.and_eq_true, beq_iff_eq] at hb; obtain ⟨hbc, _⟩ := bcell hw; go_simp; rfl); simp only [Act.put, List.setIfInBounds_toArray, List.set_cons_zero, List.set_cons_succ]))
  refine' Seg.call_if (v := _) (G := _) (f := _) (args := _) (by first | exact Seg.wanted1 rfl rfl | exact Seg.wanted2 rfl rfl) (fun hb w' => ?_) (fun hb w' hw => callB hw (fewVerdict_any ⟨⟨kd, re, mi, cs⟩, B1, d1, B2, d2, B3, d3⟩ w' (hv1.below hw) bv)) ?_
  · simp only [Bool.and_eq_true, beq_iff_eq] at hb
    go_simp
  simp only [Act.put, List.setIfInBounds_toArray, List.set_cons_zero, List.set_cons_succ]
  repeat (first
    | (refine' Seg.pick_or (b := _) (x := _) (c := _) (y := _) rfl rfl rfl rfl ?_; simp only [Act.put, List.setIfInBounds_toArray, List.set_cons_zero, List.set_cons_succ])
    | (refine' Seg.pick_and (b := _) (x := _) (c := _) (y := _) rfl rfl rfl rfl ?_; simp only [Act.put, List.setIfInBounds_toArray, List.set_cons_zero, List.set_cons_succ])
    | (refine' Seg.val (v := _) rfl (fun w' hw => ?_) ?_; rotate_left 1; (obtain ⟨hbc, _⟩ := bcell hw; go_simp; rfl); simp only [Act.put, List.setIfInBounds_toArray, List.set_cons_zero, List.set_cons_succ])
    | (refine' Seg.skip ?_ ?_; (focus (first | (rw [Seg.wanted1 rfl rfl]; simp; done) | (rw [Seg.wanted2 rfl rfl]; simp; done))); simp only [Act.put, List.setIfInBounds_toArray, List.set_cons_zero, List.set_cons_succ])
    | (refine' Seg.pick_or_if (b := _) (x := _) (G := _) (c := _) (y := _) (by first | exact Seg.wanted1 rfl rfl | exact Seg.wanted2 rfl rfl) rfl rfl rfl ?_; simp only [Act.put, List.setIfInBounds_toArray, List.set_cons_zero, List.set_cons_succ])
    | (refine' Seg.pick_and_if (b := _) (x := _) (G := _) (c := _) (y := _) (by first | exact Seg.wanted1 rfl rfl | exact Seg.wanted2 rfl rfl) rfl rfl rfl ?_; simp only [Act.put, List.setIfInBounds_toArray, List.set_cons_zero, List.set_cons_succ])
    | (refine' Seg.val_if (v := _) (G := _) (by first | exact Seg.wanted1 rfl rfl | exact Seg.wanted2 rfl rfl) (fun hb w' hw => ?_) ?_; rotate_left 1; (simp only [Bool.and_eq_true, beq_iff_eq] at hb; obtain ⟨hbc, _⟩ := bcell hw; go_simp; rfl); simp only [Act.put, List.setIfInBounds_toArray, List.set_cons_zero, List.set_cons_succ]))
  refine' Seg.call_if (v := _) (G := _) (f := _) (args := _) (by first | exact Seg.wanted1 rfl rfl | exact Seg.wanted2 rfl rfl) (fun hb w' => ?_) (fun hb w' hw => callB hw (check2_any ⟨q, A2, c2, A3, c3, A4, c4⟩ ⟨⟨kd, re, mi, cs⟩, B1, d1, B2, d2, B3, d3⟩ w' (hq1.below hw) (hv1.below hw) (vsmall_of (by dsimp only at hb ⊢; cases hs : smallV ⟨kd, re, mi, cs⟩ with | true => rfl | false => rw [hs] at hb; simp at hb) cv))) ?_
  · simp only [Bool.and_eq_true, beq_iff_eq] at hb
    go_simp
  simp only [Act.put, List.setIfInBounds_toArray, List.set_cons_zero, List.set_cons_succ]
  repeat (first
    | (refine' Seg.pick_or (b := _) (x := _) (c := _) (y := _) rfl rfl rfl rfl ?_; simp only [Act.put, List.setIfInBounds_toArray, List.set_cons_zero, List.set_cons_succ])
    | (refine' Seg.pick_and (b := _) (x := _) (c := _) (y := _) rfl rfl rfl rfl ?_; simp only [Act.put, List.setIfInBounds_toArray, List.set_cons_zero, List.set_cons_succ])
    | (refine' Seg.val (v := _) rfl (fun w' hw => ?_) ?_; rotate_left 1; (obtain ⟨hbc, _⟩ := bcell hw; go_simp; rfl); simp only [Act.put, List.setIfInBounds_toArray, List.set_cons_zero, List.set_cons_succ])
    | (refine' Seg.skip ?_ ?_; (focus (first | (rw [Seg.wanted1 rfl rfl]; simp; done) | (rw [Seg.wanted2 rfl rfl]; simp; done))); simp only [Act.put, List.setIfInBounds_toArray, List.set_cons_zero, List.set_cons_succ])
    | (refine' Seg.pick_or_if (b := _) (x := _) (G := _) (c := _) (y := _) (by first | exact Seg.wanted1 rfl rfl | exact Seg.wanted2 rfl rfl) rfl rfl rfl ?_; simp only [Act.put, List.setIfInBounds_toArray, List.set_cons_zero, List.set_cons_succ])
    | (refine' Seg.pick_and_if (b := _) (x := _) (G := _) (c := _) (y := _) (by first | exact Seg.wanted1 rfl rfl | exact Seg.wanted2 rfl rfl) rfl rfl rfl ?_; simp only [Act.put, List.setIfInBounds_toArray, List.set_cons_zero, List.set_cons_succ])
    | (refine' Seg.val_if (v := _) (G := _) (by first | exact Seg.wanted1 rfl rfl | exact Seg.wanted2 rfl rfl) (fun hb w' hw => ?_) ?_; rotate_left 1; (simp only [Bool.and_eq_true, beq_iff_eq] at hb; obtain ⟨hbc, _⟩ := bcell hw; go_simp; rfl); simp only [Act.put, List.setIfInBounds_toArray, List.set_cons_zero, List.set_cons_succ]))
  refine Seg.doneB (fun w2 hw2 => ?_)
  clear lx cx fx lv kv fv
  have hb2 := bthen hb1 hw2
  obtain ⟨lx, cx, fx⟩ := X0.below hb2
  obtain ⟨lv, kv, fv⟩ := V0.below hb2
  repeat ((conv in Seg.opt _ _ => skip); generalize Seg.opt _ _ = u)
  generalize hcd : (_ || (checkOf q ⟨kd, re, mi, cs⟩ != 0)) = cd
  have HCd := Lib.hid hcd
  clear hcd
  cases cd
  · have hck : validB q = true ∧ showsB q ⟨kd, re, mi, cs⟩ = true := by
      have h := HCd.out
      simp only [Bool.or_eq_false_iff, bne_eq_false_iff_eq] at h
      exact check_of h.2
    have HV := Lib.hid hck.1
    have HSh := Lib.hid hck.2
    have HG := Lib.hid (good_of hck.1)
    clear hck
    have hval := refValid_any ⟨q, A2, c2, A3, c3, A4, c4⟩ w2 (hq0.below hb2)
    dsimp only at hval
    rw [HV.out] at hval
    replace hval := Lib.hid hval
    go_upto_region 7 with (go_at_call 13; refine hval.out.mono ?_; rintro e w6 ⟨rfl, hb6⟩)
    clear hval lx cx fx lv kv fv
    have hb06 := bthen hb2 hb6
    obtain ⟨lx, cx, fx⟩ := X0.below hb06
    obtain ⟨lv, kv, fv⟩ := V0.below hb06
    refine Seg2.region3 3 5 (by kernel_rfl) (by kernel_rfl) (by kernel_rfl) (by kernel_rfl) ?_
    repeat (first
      | (refine' Seg2.pick_or (b := _) (x := _) (c := _) (y := _) rfl rfl rfl rfl ?_; simp only [Act.put, List.setIfInBounds_toArray, List.set_cons_zero, List.set_cons_succ])
      | (refine' Seg2.pick_and (b := _) (x := _) (c := _) (y := _) rfl rfl rfl rfl ?_; simp only [Act.put, List.setIfInBounds_toArray, List.set_cons_zero, List.set_cons_succ])
      | (refine' Seg2.val (v := _) rfl (fun w' hw => ?_) ?_; rotate_left 1; (obtain ⟨hbc, _⟩ := bcell hw; go_simp; rfl); simp only [Act.put, List.setIfInBounds_toArray, List.set_cons_zero, List.set_cons_succ])
      | (refine' Seg2.skip ?_ ?_; (focus (first | (rw [Seg.wanted1 rfl rfl]; simp; done) | (rw [Seg.wanted2 rfl rfl]; simp; done))); simp only [Act.put, List.setIfInBounds_toArray, List.set_cons_zero, List.set_cons_succ])
      | (refine' Seg2.pick_or_if (b := _) (x := _) (G := _) (c := _) (y := _) (by first | exact Seg.wanted1 rfl rfl | exact Seg.wanted2 rfl rfl) rfl rfl rfl ?_; simp only [Act.put, List.setIfInBounds_toArray, List.set_cons_zero, List.set_cons_succ])
      | (refine' Seg2.pick_and_if (b := _) (x := _) (G := _) (c := _) (y := _) (by first | exact Seg.wanted1 rfl rfl | exact Seg.wanted2 rfl rfl) rfl rfl rfl ?_; simp only [Act.put, List.setIfInBounds_toArray, List.set_cons_zero, List.set_cons_succ])
      | (refine' Seg2.val_if (v := _) (G := _) (by first | exact Seg.wanted1 rfl rfl | exact Seg.wanted2 rfl rfl) (fun hb w' hw => ?_) ?_; rotate_left 1; (simp only [Bool.and_eq_true, beq_iff_eq] at hb; obtain ⟨hbc, _⟩ := bcell hw; go_simp; rfl); simp only [Act.put, List.setIfInBounds_toArray, List.set_cons_zero, List.set_cons_succ]))
    refine Seg2.done (Seg2.specT_cons (by simp [Region.wanted]) (fun w7 hb7 => ?_))
    have hb07 := bthen hb06 hb7
    refine Seg2.some_call (f := 15) (args := #[.agg #[.int .i64 q.win, .int .i64 q.draw, .slice A2 q.clubs.length c2, .slice A3 q.points.length c3, .slice A4 q.games.length c4, .int .i64 q.club, .int .i64 q.place], .slice B ou.length d]) (w := w7) (by go_simp) ((finals_any ⟨q, A2, c2, A3, c3, A4, c4⟩ B d ou w7 (hq0.below hb07) ((ho.below hB0).below hb07) HG.out).mono ?_)
    rintro e w8 ⟨C, cap, rfl, hO, hb8⟩
    refine ⟨_, rfl, bthen hb7 hb8, ?_⟩
    simp only [Act.put, List.setIfInBounds_toArray, List.set_cons_zero, List.set_cons_succ]
    have hb08 := bthen hb07 hb8
    refine Seg2.specT_cons (by simp [Region.wanted]) (fun w9 hb9 => ?_)
    have hpl : (after q (outs q ou)).length = q.points.length := afterTo_len q _ _
    refine Seg2.some_call (f := 14) (args := #[.agg #[.int .i64 q.win, .int .i64 q.draw, .slice A2 q.clubs.length c2, .slice A3 q.points.length c3, .slice A4 q.games.length c4, .int .i64 q.club, .int .i64 q.place], .slice C (after q (outs q ou)).length cap]) (w := w9) (by go_simp) ((refAbove_any ⟨q, A2, c2, A3, c3, A4, c4⟩ C cap (after q (outs q ou)) w9 (hO.row.below hb9) HG.out hpl).mono ?_)
    dsimp only
    have hmore : moreTo q (after q (outs q ou)) (after q (outs q ou)).length = more q (outs q ou) := by rw [hpl, more]
    have hmany : manyTo q (after q (outs q ou)) (after q (outs q ou)).length = many q (outs q ou) := by rw [hpl, many]
    rw [hmore, hmany]
    have hou : ∀ x ∈ ou, 0 ≤ x := fun x hx => by
      obtain ⟨i, hi, rfl⟩ := mem_rd.1 hx
      exact (wf_u8 (ho.int_wf i hi)).1
    have HC := Lib.hid (outs_compl q ou hou)
    clear hou hpl hmore hmany
    rintro e w10 ⟨rfl, hb10⟩
    have hb010 := bthen (bthen hb08 hb9) hb10
    refine ⟨_, rfl, bthen (bthen (bthen hb7 hb8) hb9) hb10, ?_⟩
    simp only [Act.put, List.setIfInBounds_toArray, List.set_cons_zero, List.set_cons_succ]
    refine Seg2.specT_nil (fun w12 hb12 => ?_)
    simp only [List.drop]
    repeat (first
      | (refine' Seg2.pick_or (b := _) (x := _) (c := _) (y := _) rfl rfl rfl rfl ?_; simp only [Act.put, List.setIfInBounds_toArray, List.set_cons_zero, List.set_cons_succ])
      | (refine' Seg2.pick_and (b := _) (x := _) (c := _) (y := _) rfl rfl rfl rfl ?_; simp only [Act.put, List.setIfInBounds_toArray, List.set_cons_zero, List.set_cons_succ])
      | (refine' Seg2.val (v := _) rfl (fun w' hw => ?_) ?_; rotate_left 1; (obtain ⟨hbc, _⟩ := bcell hw; go_simp; rfl); simp only [Act.put, List.setIfInBounds_toArray, List.set_cons_zero, List.set_cons_succ])
      | (refine' Seg2.skip ?_ ?_; (focus (first | (rw [Seg.wanted1 rfl rfl]; simp; done) | (rw [Seg.wanted2 rfl rfl]; simp; done))); simp only [Act.put, List.setIfInBounds_toArray, List.set_cons_zero, List.set_cons_succ])
      | (refine' Seg2.pick_or_if (b := _) (x := _) (G := _) (c := _) (y := _) (by first | exact Seg.wanted1 rfl rfl | exact Seg.wanted2 rfl rfl) rfl rfl rfl ?_; simp only [Act.put, List.setIfInBounds_toArray, List.set_cons_zero, List.set_cons_succ])
      | (refine' Seg2.pick_and_if (b := _) (x := _) (G := _) (c := _) (y := _) (by first | exact Seg.wanted1 rfl rfl | exact Seg.wanted2 rfl rfl) rfl rfl rfl ?_; simp only [Act.put, List.setIfInBounds_toArray, List.set_cons_zero, List.set_cons_succ])
      | (refine' Seg2.val_if (v := _) (G := _) (by first | exact Seg.wanted1 rfl rfl | exact Seg.wanted2 rfl rfl) (fun hb w' hw => ?_) ?_; rotate_left 1; (simp only [Bool.and_eq_true, beq_iff_eq] at hb; obtain ⟨hbc, _⟩ := bcell hw; go_simp; rfl); simp only [Act.put, List.setIfInBounds_toArray, List.set_cons_zero, List.set_cons_succ]))
    refine Seg2.done (fun w11 hb13 => ?_)
    have hb011 := bthen hb010 (bthen hb12 hb13)
    clear lx cx fx lv kv fv
    obtain ⟨lx, cx, fx⟩ := X0.below hb011
    obtain ⟨lv, kv, fv⟩ := V0.below hb011
    have hBw := bthen hB0 hb011
    have hp0 := HG.out.p0
    have hp1 : q.place ≤ 24 := by have := HG.out.p1; have := HG.out.n1; omega
    rcases shows_cases HSh.out with ⟨k1, a1⟩ | ⟨k1, a1⟩ | ⟨k1, a1⟩ | k1
    · have e1 := certain_all HG.out a1 HC.out
      dsimp only at k1
      subst k1
      clear a1
      gi_wp2
      go_wp2
      go_ret
      exact ⟨rfl, hBw⟩
    · have e1 := out_all HG.out a1 HC.out
      dsimp only at k1
      subst k1
      clear a1
      gi_wp2
      go_wp2
      go_ret
      exact ⟨rfl, hBw⟩
    · obtain ⟨r1, r2⟩ := open_of a1
      dsimp only at k1 r1 r2
      subst k1
      have hcr := reached_any ⟨q, A2, c2, A3, c3, A4, c4⟩ B1 d1 re w11 (hq0.below hb011) (hv0.below hb011).h1
      dsimp only at hcr
      rw [r1] at hcr
      have hcm : ∀ w', Below w11.heap.size w11 w' → Calls Try.prog 17 #[.agg #[.int .i64 q.win, .int .i64 q.draw, .slice A2 q.clubs.length c2, .slice A3 q.points.length c3, .slice A4 q.games.length c4, .int .i64 q.club, .int .i64 q.place], .slice B2 mi.length d2] w' fun e w'' => e = .returned (.int .i64 0) ∧ Below w'.heap.size w' w'' := fun w' hw => by
        have h := missed_any ⟨q, A2, c2, A3, c3, A4, c4⟩ B2 d2 mi w' (hq0.below (bthen hb011 hw)) (hv0.below (bthen hb011 hw)).h2
        dsimp only at h
        rw [r2] at h
        exact h
      replace hcr := Lib.hid hcr
      replace hcm := Lib.hid hcm
      clear a1 r1 r2
      gi_wp2
      go_wp2_with (first | (go_at_call 16; refine hcr.out.mono ?_; rintro e w12 ⟨rfl, hb12⟩; obtain ⟨lx, cx, fx⟩ := X0.below (bthen hb011 hb12); obtain ⟨lv, kv, fv⟩ := V0.below (bthen hb011 hb12)) | (go_at_call 17; refine (hcm.out _ hb12).mono ?_; rintro e w13 ⟨rfl, hb13⟩))
      go_ret
      exact ⟨rfl, bthen hBw (bthen hb12 hb13)⟩
    · dsimp only at k1
      subst k1
      gi_wp2
      go_wp2
      go_ret
      exact ⟨rfl, hBw⟩
  · go_wp2
    go_ret
    exact ⟨rfl, bthen hB0 hb2⟩
end Go.Proofs.Ytfmekjpmjefpmaa

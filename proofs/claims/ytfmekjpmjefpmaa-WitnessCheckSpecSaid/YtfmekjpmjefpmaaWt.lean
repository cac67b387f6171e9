/- shown, certain, out, open, unknown, walked. -/
import Derived.Test.YtfmekjpmjefpmaaWs
set_option linter.unusedSimpArgs false
set_option linter.unusedVariables false
namespace Go.Proofs.Ytfmekjpmjefpmaa
open Go.RowKit Go.Shelf
attribute [local go_sem] Oper.semAt_some

theorem completions_any (m : RaceM) (w : World) : Calls Try.prog 68 #[m.v] w fun e w' => e = .returned (.func (.func 89) #[] #[.pointer (some ⟨w.heap.size, 0, none⟩)]) ∧ w' = w.alloc (.cells (raceCells m) 53) := by
  obtain ⟨q, A2, c2, A3, c3, A4, c4⟩ := m
  dsimp only [RaceM.v] at *
  go_enter Try.func68, Try.ntmps68
  go_wp2
  go_ret
  exact ⟨rfl, rfl⟩

/-- A function that holds a range over a function leaves ahead of it. -/
theorem leave0 {P : Program} {fn : Func} {tmps : Array Value} {R : Ending → World → Prop} {W : World} {v : Value} (hres : (results fn tmps).run P W = .ok v W) (h : R (.returned v) W) : LeavesInM Fence.wide 0 P fn tmps R [] .returning W := ⟨v, hres, h⟩
/-- Does a completion go against what is said? -/
def against (q : Race) (ce : Bool) (o : List Int) : Bool := (ce && decide (q.place ≤ many q o)) || (!ce && decide (more q o < q.place))
def searchB (q : Race) (ce : Bool) : Bool := decide (∀ o, o ∈ counts q.games.length → against q ce o = false)
def shownB (q : Race) (ce : Bool) (v : Verdict) : Bool :=
  if 0 < v.reached.length + v.missed.length then false else if byFlow q = true then cutsB q ce v.cuts else if (decide (0 < v.cuts.length) || !bySearch q) = true then false else searchB q ce

set_option maxHeartbeats 8000000 in
set_option maxRecDepth 100000 in
theorem shown_any (m : RaceM) (ce : Bool) (v : VerdictM) (w : World) (hq : RaceIn w m) (hv : VerdictIn w v) (hd : v.v.cuts.length ≤ v.c3) (hg : Good m.q) (hl1 : v.v.reached.length ≤ 1000000) (hl2 : v.v.missed.length ≤ 1000000) :
    Calls Try.prog 39 #[m.v, .bool ce, v.val] w fun e w' => e = .returned (.bool (shownB m.q ce v.v)) ∧ Below w.heap.size w w' := by
  obtain ⟨q, A2, c2, A3, c3, A4, c4⟩ := m
  obtain ⟨⟨kd, re, mi, cu⟩, B1, d1, B2, d2, B3, d3⟩ := v
  dsimp only [RaceM.v, VerdictM.val] at *
  have hr3 := hv.h3.1
  dsimp only at hr3
  have HG := Lib.hid hg
  have hg1 := hg.g1
  clear hg
  generalize hres : (Ending.returned (.bool (shownB q ce ⟨kd, re, mi, cu⟩))) = R
  have HRes := Lib.hid hres
  clear hres
  refine (callsIn_wide (n := 0)).1 (callsIn_of_wp_marks Try.func39 rfl trivial (wpIn_wide.2 ?_) rfl)
  simp only [Try.ntmps39, List.size_toArray, List.length_cons, List.length_nil, Nat.reduceAdd, Nat.reduceSub, Array.replicate_succ, Array.replicate_zero, List.push_toArray, List.append_toArray, List.nil_append, List.cons_append]
  go_upto_region 1 with (fail)
  obtain ⟨W0, hW0, hB0, X0, E0, V0, R0, hsz0⟩ := box4 w #[.int .i64 q.win, .int .i64 q.draw, .slice A2 q.clubs.length c2, .slice A3 q.points.length c3, .slice A4 q.games.length c4, .int .i64 q.club, .int .i64 q.place] #[.bool ce] #[.int .i64 kd, .slice B1 re.length d1, .slice B2 mi.length d2, .slice B3 cu.length d3] #[.bool false] 53 4 28 4
  rw [hW0]
  clear hW0
  have HS0 := Lib.hid hsz0
  clear hsz0
  obtain ⟨lx, cx, fx⟩ := id X0
  obtain ⟨le, xe, fe⟩ := id E0
  obtain ⟨lv, cv, fv⟩ := id V0
  obtain ⟨lr, cr, fr⟩ := id R0
  by_cases hrm : (0 : Int) < (re.length : Int) + mi.length
  · go_upto_region 3 with (fail)
    refine leave0 (results_cell1 rfl rfl (load_bool R0.put)) ⟨?_, bset hB0 (by omega)⟩
    rw [← HRes.out, shownB, if_pos (by dsimp only; omega)]
  · have hrm' : ¬ (0 < re.length + mi.length) := by omega
    have HRM := Lib.hid hrm'
    clear hrm'
    have hsum : (re.length : Int) + mi.length ≤ 0 := by omega
    cases hbf : byFlow q
    · have HBF := Lib.hid hbf
      clear hbf
      go_upto_region 5 with (go_at_call 40; refine (byFlow_any ⟨q, A2, c2, A3, c3, A4, c4⟩ W0 HG.out).mono ?_; rw [HBF.out]; rintro e w' ⟨rfl, hb1⟩; obtain ⟨lx, cx, fx⟩ := X0.below hb1; obtain ⟨le, xe, fe⟩ := E0.below hb1; obtain ⟨lv, cv, fv⟩ := V0.below hb1; obtain ⟨lr, cr, fr⟩ := R0.below hb1)
      repeat (first | (with_reducible refine Seg.plainB ?_) | go_step)
      repeat (first
        | (refine' Seg.pick_or (b := _) (x := _) (c := _) (y := _) rfl rfl rfl rfl ?_; simp only [Act.put, List.setIfInBounds_toArray, List.set_cons_zero, List.set_cons_succ])
        | (refine' Seg.pick_and (b := _) (x := _) (c := _) (y := _) rfl rfl rfl rfl ?_; simp only [Act.put, List.setIfInBounds_toArray, List.set_cons_zero, List.set_cons_succ])
        | (refine' Seg.val (v := _) rfl (fun w' hw => ?_) ?_; rotate_left 1; (obtain ⟨hbc, _⟩ := bcell hw; go_simp; rfl); simp only [Act.put, List.setIfInBounds_toArray, List.set_cons_zero, List.set_cons_succ])
        | (refine' Seg.skip ?_ ?_; (focus (first | (rw [Seg.wanted1 rfl rfl]; simp; done) | (rw [Seg.wanted2 rfl rfl]; simp; done))); simp only [Act.put, List.setIfInBounds_toArray, List.set_cons_zero, List.set_cons_succ])
        | (refine' Seg.pick_or_if (b := _) (x := _) (G := _) (c := _) (y := _) (by first | exact Seg.wanted1 rfl rfl | exact Seg.wanted2 rfl rfl) rfl rfl rfl ?_; simp only [Act.put, List.setIfInBounds_toArray, List.set_cons_zero, List.set_cons_succ])
        | (refine' Seg.pick_and_if (b := _) (x := _) (G := _) (c := _) (y := _) (by first | exact Seg.wanted1 rfl rfl | exact Seg.wanted2 rfl rfl) rfl rfl rfl ?_; simp only [Act.put, List.setIfInBounds_toArray, List.set_cons_zero, List.set_cons_succ])
        | (refine' Seg.val_if (v := _) (G := _) (by first | exact Seg.wanted1 rfl rfl | exact Seg.wanted2 rfl rfl) (fun hb w' hw => ?_) ?_; rotate_left 1; (simp only [Bool.and_eq_true, beq_iff_eq] at hb; obtain ⟨hbc, _⟩ := bcell hw; go_simp; rfl); simp only [Act.put, List.setIfInBounds_toArray, List.set_cons_zero, List.set_cons_succ]))
      refine' Seg.call_if (v := _) (G := _) (f := _) (args := _) (by first | exact Seg.wanted1 rfl rfl | exact Seg.wanted2 rfl rfl) (fun hb w' => ?_) (fun hb w' hw => callB hw (bySearch_any ⟨q, A2, c2, A3, c3, A4, c4⟩ w')) ?_
      · simp only [Bool.and_eq_true, beq_iff_eq] at hb
        go_simp
      simp only [Act.put, List.setIfInBounds_toArray, List.set_cons_zero, List.set_cons_succ]
      repeat (first
        | (refine' Seg.pick_or (b := _) (x := _) (c := _) (y := _) rfl rfl rfl rfl ?_; simp only [Act.put, List.setIfInBounds_toArray, List.set_cons_zero, List.set_cons_succ])
        | (refine' Seg.pick_and (b := _) (x := _) (c := _) (y := _) rfl rfl rfl rfl ?_; simp only [Act.put, List.setIfInBounds_toArray, List.set_cons_zero, List.set_cons_succ])
        | (refine' Seg.val (v := _) rfl (fun w' hw => ?_) ?_; rotate_left 1; (obtain ⟨hbc, _⟩ := bcell hw; go_simp; rfl); simp only [Act.put, List.setIfInBounds_toArray, List.set_cons_zero, List.set_cons_succ])
        | (refine' Seg.skip ?_ ?_; (focus (first | (rw [Seg.wanted1 rfl rfl]; simp; done) | (rw [Seg.wanted2 rfl rfl]; simp; done))); simp only [Act.put, List.setIfInBounds_toArray, List.set_cons_zero, List.set_cons_succ])
        | (refine' Seg.pick_or_if (b := _) (x := _) (G := _) (c := _) (y := _) (by first | exact Seg.wanted1 rfl rfl | exact Seg.wanted2 rfl rfl) rfl rfl rfl ?_; simp only [Act.put, List.setIfInBounds_toArray, List.set_cons_zero, List.set_cons_succ])
        | (refine' Seg.pick_and_if (b := _) (x := _) (G := _) (c := _) (y := _) (by first | exact Seg.wanted1 rfl rfl | exact Seg.wanted2 rfl rfl) rfl rfl rfl ?_; simp only [Act.put, List.setIfInBounds_toArray, List.set_cons_zero, List.set_cons_succ])
        | (refine' Seg.val_if (v := _) (G := _) (by first | exact Seg.wanted1 rfl rfl | exact Seg.wanted2 rfl rfl) (fun hb w' hw => ?_) ?_; rotate_left 1; (simp only [Bool.and_eq_true, beq_iff_eq] at hb; obtain ⟨hbc, _⟩ := bcell hw; go_simp; rfl); simp only [Act.put, List.setIfInBounds_toArray, List.set_cons_zero, List.set_cons_succ]))
      refine Seg.doneB (fun w2 hw2 => ?_)
      clear lx cx fx le xe fe lv cv fv lr cr fr
      have hb2 := bthen hb1 hw2
      obtain ⟨lx, cx, fx⟩ := X0.below hb2
      obtain ⟨lr, cr, fr⟩ := R0.below hb2
      repeat ((conv in Seg.opt _ _ => skip); generalize Seg.opt _ _ = u)
      generalize hcd : (_ || !bySearch q) = cd
      have HCd := Lib.hid hcd
      clear hcd
      cases cd
      · go_wp2_with (go_at_call 68; refine (completions_any ⟨q, A2, c2, A3, c3, A4, c4⟩ w2).mono ?_; rintro e w' ⟨rfl, rfl⟩)
        dsimp only [raceCells]
        clear lx cx fx lr cr fr
        obtain ⟨W1, hW1, hB1, X1⟩ := box1 w2 #[.int .i64 q.win, .int .i64 q.draw, .slice A2 q.clubs.length c2, .slice A3 q.points.length c3, .slice A4 q.games.length c4, .int .i64 q.club, .int .i64 q.place] 53
        rw [hW1]
        clear hW1
        have HB1 := bthen hb2 hB1
        have HBw := bthen hB0 HB1
        have hsz1 : w.heap.size + 4 ≤ w2.heap.size := by have := HS0.out; have := hb2.size; omega
        have hsz2 : w2.heap.size + 1 ≤ W1.heap.size := X1.lt
        refine (wpIn_wide (n := 0)).1 ?_
        refine' range_law (p := 36) rfl (enters_of Try.func89 (by kernel_rfl) rfl) (completions_seq q A2 A3 A4 c2 c3 c4 w2.heap.size hg1) (fun V hb => X1.below hb) (fun b => b = w.heap.size + 1 + 1 + 1) (fun b hb => by omega) (fun b hb => by omega)
          (fun k W => Hid (∀ i o, i < k → (counts q.games.length)[i]? = some o → against q ce o = false) ∧ Box W (w.heap.size + 1 + 1 + 1) #[.bool false] ∧ Below w.heap.size w W ∧ Box W w.heap.size #[.int .i64 q.win, .int .i64 q.draw, .slice A2 q.clubs.length c2, .slice A3 q.points.length c3, .slice A4 q.games.length c4, .int .i64 q.club, .int .i64 q.place] ∧ Box W (w.heap.size + 1) #[.bool ce])
          (fun c W => c = .ret ∧ Box W (w.heap.size + 1 + 1 + 1) #[.bool false] ∧ Hid (∃ o, o ∈ counts q.games.length ∧ against q ce o = true) ∧ Below w.heap.size w W)
          (fun k V1 V2 ⟨h2, h3, h4, h5, h6⟩ hs hb => ⟨h2, h3.belowN' hb (by omega), h4.trans (hb.mono (by omega)), h5.belowN' hb (by omega), h6.belowN' hb (by omega)⟩)
          (fun c V1 V2 ⟨h1, h2, h3, h4⟩ hs hb => ⟨h1, h2.belowN' hb (by omega), h3, h4.trans (hb.mono (by omega))⟩)
          ⟨fun i o hi => by omega, R0.below HB1, HBw, X0.below HB1, E0.below HB1⟩ _ ?_ ?_ ?_ ?_
        rotate_left 1
        · intro l v W K hK
          simp only [List.setIfInBounds_toArray, List.set_cons_zero, List.set_cons_succ]
          gi_wp2
          exact hK
        · rintro l k x W A c hx ⟨hok, hres, hbw, hX, hE⟩ hxc hrow hs
          have hkn : k < (counts q.games.length).length := (List.getElem?_eq_some_iff.1 hx).1
          have hmem : x ∈ counts q.games.length := List.mem_of_getElem? hx
          have hxl := (counts_len _ _ hmem).1
          have HXL := Lib.hid hxl
          have HMem := Lib.hid hmem
          have HX := Lib.hid hx
          have HS1 := Lib.hid hsz1
          have HS2 := Lib.hid hsz2
          clear hxl hx hmem
          obtain ⟨lx, cx, fx⟩ := id hX
          have hab : ∀ w', Below W.heap.size W w' → Calls Try.prog 28 #[.agg #[.int .i64 q.win, .int .i64 q.draw, .slice A2 q.clubs.length c2, .slice A3 q.points.length c3, .slice A4 q.games.length c4, .int .i64 q.club, .int .i64 q.place], .slice A x.length c] w' fun e w'' => e = .returned (.tuple #[.int .i64 (more q x), .int .i64 (many q x)]) ∧ Below w'.heap.size w' w'' := fun w' hb => above_any ⟨q, A2, c2, A3, c3, A4, c4⟩ A c x w' (hq.below (bthen hbw hb)) (hrow.below hb) HXL.out HG.out
          replace hab := Lib.hid hab
          gi_wp2
          refine ⟨trivial, rfl, ?_⟩
          refine ((Seg2.wide_round l).calls (hab.out _ (Below.refl _ _))).mono ?_
          rintro e w3 ⟨rfl, hb3⟩
          clear lx cx fx
          obtain ⟨lx, cx, fx⟩ := hX.below hb3
          obtain ⟨le, xe, fe⟩ := hE.below hb3
          obtain ⟨lr, xr, fr⟩ := hres.below hb3
          have hstop : against q ce x = true → ∃ o, o ∈ counts q.games.length ∧ against q ce o = true := fun h => ⟨x, HMem.out, h⟩
          have hgo : against q ce x = false → ∀ i o, i < k + 1 → (counts q.games.length)[i]? = some o → against q ce o = false := fun h i o hi ho => by
            rcases Nat.lt_or_ge i k with h' | h'
            · exact hok.out i o h' ho
            · obtain rfl : i = k := by omega
              rw [HX.out] at ho
              cases ho
              exact h
          replace hstop := Lib.hid hstop
          replace hgo := Lib.hid hgo
          cases ce
          · by_cases hc : more q x < q.place
            · have hag : Hid (against q false x = true) := Lib.hid (by simp [against, hc])
              gi_wp2
              exact ⟨Kept.setCell (M := fun b => b = w.heap.size + 1 + 1 + 1) (Kept.of_below hb3) (p := ⟨w.heap.size + 1 + 1 + 1, 0, none⟩) rfl _, rfl, (hres.below hb3).put, hstop.out hag.out, bset (bthen hbw hb3) (by omega)⟩
            · have hag : Hid (against q false x = false) := Lib.hid (by simp [against]; omega)
              gi_wp2
              exact ⟨Kept.of_below hb3, hgo.out hag.out, hres.below hb3, bthen hbw hb3, hX.below hb3, hE.below hb3⟩
          · by_cases hc : q.place ≤ many q x
            · have hag : Hid (against q true x = true) := Lib.hid (by simp [against, hc])
              gi_wp2
              exact ⟨Kept.setCell (M := fun b => b = w.heap.size + 1 + 1 + 1) (Kept.of_below hb3) (p := ⟨w.heap.size + 1 + 1 + 1, 0, none⟩) rfl _, rfl, (hres.below hb3).put, hstop.out hag.out, bset (bthen hbw hb3) (by omega)⟩
            · have hag : Hid (against q true x = false) := Lib.hid (by simp [against]; omega)
              gi_wp2
              exact ⟨Kept.of_below hb3, hgo.out hag.out, hres.below hb3, bthen hbw hb3, hX.below hb3, hE.below hb3⟩
        · rintro D W hD ⟨hok, hres, hbw, hX, hE⟩ hK
          have HS1 := Lib.hid hsz1
          have HS2 := Lib.hid hsz2
          obtain ⟨lr, xr, fr⟩ := id hres
          go_wp2
          have hK2 : (W.setCell ⟨w.heap.size + 1 + 1 + 1, 0, none⟩ (.bool true)).heap[D]? = some (.deferred (some [])) := (Below.heap_setCell _ _ _ _ (by simp only; omega)).trans hK
          have hR := (hres.put (u := .bool true)).putObj (l := D) (o := .deferred none) (by omega)
          refine leave_marked hK2 (results_cell1 rfl rfl (load_bool hR)) ⟨?_, below_putObj (bset hbw (by omega)) (by omega) _⟩
          rw [← HRes.out, shownB, if_neg (by dsimp only; exact HRM.out), if_neg (by rw [HBF.out]; decide), if_neg (by rw [HCd.out]; decide), searchB, decide_eq_true]
          intro o ho
          obtain ⟨i, hi, hio⟩ := List.mem_iff_getElem.1 ho
          exact hok.out i o hi (by rw [List.getElem?_eq_getElem hi, hio])
        · rintro D c W hD ⟨rfl, h2, h3, h4⟩ hK
          gi_wp2
          have hR := h2.putObj (l := D) (o := .deferred none) (by omega)
          refine leave_marked hK (results_cell1 rfl rfl (load_bool hR)) ⟨?_, below_putObj h4 (by omega) _⟩
          obtain ⟨o, ho, hc⟩ := h3.out
          rw [← HRes.out, shownB, if_neg (by dsimp only; exact HRM.out), if_neg (by rw [HBF.out]; decide), if_neg (by rw [HCd.out]; decide), searchB, decide_eq_false (fun h => by rw [h o ho] at hc; cases hc)]
      · go_wp2
        refine leave0 (results_cell1 rfl rfl (load_bool ((R0.below hb2).put))) ⟨?_, bset (bthen hB0 hb2) (by omega)⟩
        rw [← HRes.out, shownB, if_neg (by dsimp only; exact HRM.out), if_neg (by rw [HBF.out]; decide), if_pos HCd.out]
    · have HBF := Lib.hid hbf
      clear hbf
      have hcut : ∀ w', Below W0.heap.size W0 w' → Calls Try.prog 67 #[.agg #[.int .i64 q.win, .int .i64 q.draw, .slice A2 q.clubs.length c2, .slice A3 q.points.length c3, .slice A4 q.games.length c4, .int .i64 q.club, .int .i64 q.place], .bool ce, .slice B3 cu.length d3] w' fun e w'' => e = .returned (.bool (cutsB q ce cu)) ∧ Below w'.heap.size w' w'' := fun w' hb => cuts_any ⟨q, A2, c2, A3, c3, A4, c4⟩ ce B3 d3 cu w' (hq.below (bthen hB0 hb)) (hv.h3.below (bthen hB0 hb)) hd HG.out
      replace hcut := Lib.hid hcut
      go_wp2_with (first | (go_at_call 40; refine (byFlow_any ⟨q, A2, c2, A3, c3, A4, c4⟩ W0 HG.out).mono ?_; rw [HBF.out]; rintro e w' ⟨rfl, hb1⟩; obtain ⟨lx, cx, fx⟩ := X0.below hb1; obtain ⟨le, xe, fe⟩ := E0.below hb1; obtain ⟨lv, cv, fv⟩ := V0.below hb1; obtain ⟨lr, cr, fr⟩ := R0.below hb1) | (go_at_call 67; refine (hcut.out _ hb1).mono ?_; rintro e w2 ⟨rfl, hb2⟩; obtain ⟨lr, cr, fr⟩ := R0.below (bthen hb1 hb2)))
      refine leave0 (results_cell1 rfl rfl (load_bool ((R0.below (bthen hb1 hb2)).put))) ⟨?_, bset (bthen hB0 (bthen hb1 hb2)) (by omega)⟩
      rw [← HRes.out, shownB, if_neg (by dsimp only; exact HRM.out), if_pos HBF.out]
end Go.Proofs.Ytfmekjpmjefpmaa

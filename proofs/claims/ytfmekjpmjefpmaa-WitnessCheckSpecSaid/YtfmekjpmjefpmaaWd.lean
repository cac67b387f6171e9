/- The check of a race, walked: the whole. -/
import Derived.Test.YtfmekjpmjefpmaaWc
set_option linter.unusedSimpArgs false
set_option linter.unusedVariables false
namespace Go.Proofs.Ytfmekjpmjefpmaa
open Go.RowKit

abbrev zeroRace : Value := .agg #[.int .i64 0, .int .i64 0, .slice none 0 0, .slice none 0 0, .slice none 0 0, .int .i64 0, .int .i64 0]
theorem upto {p : Nat → Bool} {n : Nat} (h : ∀ i, i < n → p i = false) (h1 : p n = false) : ∀ i, i < n + 1 → p i = false := fun i hi => by
  rcases Nat.lt_or_ge i n with h' | h'
  · exact h i h'
  · obtain rfl : i = n := by omega
    exact h1
theorem not_valid {q : Race} {n : Nat} (hn : n < q.clubs.length) (h : clubBad q n = true) : validB q = false := by
  rw [validB, decide_eq_false (fun h' => by have := h' n hn; rw [h] at this; cases this)]
  simp
theorem res21 {w : World} {t : Array Value} {b : Nat} {x : Bool} {C : Array Value} (h : Box w b C) (hC : C.size = 7) (h2 : t.getD 2 undef = .pointer (some ⟨b, 0, none⟩)) (h3 : t.getD 3 undef = .bool x) :
    (results Try.f21 t).run Try.prog w = .ok (.tuple #[.agg C, .bool x]) w :=
  results_cellv rfl h2 h3 (h.load Try.underlying53 rfl (by rw [hC]; kernel_rfl))
set_option maxHeartbeats 4000000 in
set_option maxRecDepth 100000 in
theorem check_any (m : RaceM) (w : World) (hq : RaceIn w m) :
    Calls Try.prog 21 #[m.v] w fun e w' => e = .returned (.tuple #[if validB m.q = true then m.v else zeroRace, .bool (validB m.q)]) ∧ Below w.heap.size w w' := by
  obtain ⟨q, A2, c2, A3, c3, A4, c4⟩ := m
  dsimp only [RaceM.v] at *
  generalize hres : (Ending.returned (.tuple #[if validB q = true then _ else _, _])) = R
  have HRes := Lib.hid hres
  clear hres
  go_enter Try.func21, Try.ntmps21
  go_upto_region 2 with (fail)
  obtain ⟨W0, hW0, hB0, X0, Z0, N0⟩ := box3 w #[.int .i64 q.win, .int .i64 q.draw, .slice A2 q.clubs.length c2, .slice A3 q.points.length c3, .slice A4 q.games.length c4, .int .i64 q.club, .int .i64 q.place] #[.int .i64 0, .int .i64 0, .slice none 0 0, .slice none 0 0, .slice none 0 0, .int .i64 0, .int .i64 0] #[.int .i64 q.clubs.length] 25 53 3
  rw [hW0]
  clear hW0
  have hq0 := hq.below hB0
  obtain ⟨lx, cx, fx⟩ := id X0
  obtain ⟨lz, cz, fz⟩ := id Z0
  obtain ⟨ln, cn, fn⟩ := id N0
  repeat (first | (with_reducible refine Seg.plainE ?_) | go_step)
  repeat (first
    | (refine' Seg.pick_or (b := _) (x := _) (c := _) (y := _) rfl rfl rfl rfl ?_; simp only [Act.put, List.setIfInBounds_toArray, List.set_cons_zero, List.set_cons_succ])
    | (refine' Seg.pick_and (b := _) (x := _) (c := _) (y := _) rfl rfl rfl rfl ?_; simp only [Act.put, List.setIfInBounds_toArray, List.set_cons_zero, List.set_cons_succ])
    | (refine' Seg.val (v := _) rfl (fun w' hw => ?_) ?_; rotate_left 1; (subst hw; go_simp; rfl); simp only [Act.put, List.setIfInBounds_toArray, List.set_cons_zero, List.set_cons_succ])
    | (refine' Seg.skip ?_ ?_; (focus (first | (rw [Seg.wanted1 rfl rfl]; simp; done) | (rw [Seg.wanted2 rfl rfl]; simp; done))); simp only [Act.put, List.setIfInBounds_toArray, List.set_cons_zero, List.set_cons_succ])
    | (refine' Seg.pick_or_if (b := _) (x := _) (G := _) (c := _) (y := _) (by first | exact Seg.wanted1 rfl rfl | exact Seg.wanted2 rfl rfl) rfl rfl rfl ?_; simp only [Act.put, List.setIfInBounds_toArray, List.set_cons_zero, List.set_cons_succ])
    | (refine' Seg.pick_and_if (b := _) (x := _) (G := _) (c := _) (y := _) (by first | exact Seg.wanted1 rfl rfl | exact Seg.wanted2 rfl rfl) rfl rfl rfl ?_; simp only [Act.put, List.setIfInBounds_toArray, List.set_cons_zero, List.set_cons_succ])
    | (refine' Seg.val_if (v := _) (G := _) (by first | exact Seg.wanted1 rfl rfl | exact Seg.wanted2 rfl rfl) (fun hb w' hw => ?_) ?_; rotate_left 1; (simp only [Bool.and_eq_true, beq_iff_eq] at hb; subst hw; go_simp; rfl); simp only [Act.put, List.setIfInBounds_toArray, List.set_cons_zero, List.set_cons_succ]))
  refine Seg.done ?_
  iterate 35 (generalize Seg.opt _ _ = u)
  generalize hcd : (_ || decide ((q.clubs.length : Int) < q.place)) = cd
  have HH : Hid (headBad q = cd) := Lib.hid hcd
  clear hcd
  cases cd
  · have HK := Lib.hid (headOk HH.out)
    have hn1 := HK.out.n1
    go_wp2
    clear lx cx fx lz cz fz ln cn fn
    go_loopw [73] (fun v73 wr => ∃ n : Nat, n ≤ q.clubs.length ∧ v73 = .int .i64 n ∧ Hid (∀ i, i < n → clubBad q i = false) ∧ wr = W0) (fun i _ => q.clubs.length - (intOf i).toNat)
    case atStart => exact ⟨0, by omega, rfl, fun j hj => by omega, rfl⟩
    case round =>
      obtain ⟨n, hn, rfl, HN, rfl⟩ := hrel
      by_cases hlt : n < q.clubs.length
      · obtain ⟨b2, o2, e2, hb2, hc2, hw2⟩ := hq0.h2.int_at (i := n) hlt
        obtain ⟨b3, o3, e3, hb3, hc3, hw3⟩ := hq0.h3.int_at (i := n) (by have := HK.out.pl; dsimp only; omega)
        dsimp only at e2 e3 hc2 hc3
        subst e2
        subst e3
        obtain ⟨lx, cx, fx⟩ := id X0
        obtain ⟨lz, cz, fz⟩ := id Z0
        have hlt3 : n < q.points.length := by have := HK.out.pl; omega
        rcases Nat.eq_zero_or_pos n with h0 | h0
        · subst h0
          simp only [Nat.add_zero] at hc2 hc3
          go_upto_region 7 with (fail)
          repeat (first | (with_reducible refine Seg.plainE ?_) | go_step)
          repeat (first
            | (refine' Seg.pick_or (b := _) (x := _) (c := _) (y := _) rfl rfl rfl rfl ?_; simp only [Act.put, List.setIfInBounds_toArray, List.set_cons_zero, List.set_cons_succ])
            | (refine' Seg.pick_and (b := _) (x := _) (c := _) (y := _) rfl rfl rfl rfl ?_; simp only [Act.put, List.setIfInBounds_toArray, List.set_cons_zero, List.set_cons_succ])
            | (refine' Seg.val (v := _) rfl (fun w' hw => ?_) ?_; rotate_left 1; (subst hw; go_simp; rfl); simp only [Act.put, List.setIfInBounds_toArray, List.set_cons_zero, List.set_cons_succ])
            | (refine' Seg.skip ?_ ?_; (focus (first | (rw [Seg.wanted1 rfl rfl]; simp; done) | (rw [Seg.wanted2 rfl rfl]; simp; done))); simp only [Act.put, List.setIfInBounds_toArray, List.set_cons_zero, List.set_cons_succ])
            | (refine' Seg.pick_or_if (b := _) (x := _) (G := _) (c := _) (y := _) (by first | exact Seg.wanted1 rfl rfl | exact Seg.wanted2 rfl rfl) rfl rfl rfl ?_; simp only [Act.put, List.setIfInBounds_toArray, List.set_cons_zero, List.set_cons_succ])
            | (refine' Seg.pick_and_if (b := _) (x := _) (G := _) (c := _) (y := _) (by first | exact Seg.wanted1 rfl rfl | exact Seg.wanted2 rfl rfl) rfl rfl rfl ?_; simp only [Act.put, List.setIfInBounds_toArray, List.set_cons_zero, List.set_cons_succ])
            | (refine' Seg.val_if (v := _) (G := _) (by first | exact Seg.wanted1 rfl rfl | exact Seg.wanted2 rfl rfl) (fun hb w' hw => ?_) ?_; rotate_left 1; (simp only [Bool.and_eq_true, beq_iff_eq] at hb; subst hw; go_simp; rfl); simp only [Act.put, List.setIfInBounds_toArray, List.set_cons_zero, List.set_cons_succ]))
          refine Seg.done ?_
          iterate 18 (generalize Seg.opt _ _ = u)
          generalize hcd : (_ || decide (99999 < rd q.points _)) = cd
          have HX : Hid (clubBad q 0 = cd) := Lib.hid (by rw [← hcd]; simp [clubBad, Bool.or_assoc])
          clear hcd
          cases cd
          · go_wp2
            go_roundw
            case rel =>
              exact ⟨0 + 1, by omega, by go_num, Lib.hid (upto HN.out HX.out), trivial⟩
            case measure => simp [intOf]; omega
          · go_wp2
            obtain ⟨W1, hW1, hB1, Z1⟩ := box_over7 Z0 rfl hB0 (by omega)
            rw [hW1]
            refine bodyPost_ret (res21 Z1 rfl rfl rfl) rfl ⟨?_, hB1⟩
            rw [← HRes.out, not_valid hlt HX.out]
            rfl
        · obtain ⟨p, hp⟩ : ∃ p : Nat, n = p + 1 := ⟨n - 1, by omega⟩
          have hlp : p < q.clubs.length := by omega
          have hw1 : IntKind.i64.wrap ((n:Int) - 1) = (p : Int) := by rw [IntWalk.i64_in _ (by omega)]; omega
          have HP := Lib.hid hp
          clear hp
          obtain ⟨b', o', e', hb', hc', hw'⟩ := hq0.h2.int_at (i := p) hlp
          cases e'
          dsimp only at hc'
          go_upto_region 7 with (fail)
          repeat (first | (with_reducible refine Seg.plainE ?_) | go_step)
          repeat (first
            | (refine' Seg.pick_or (b := _) (x := _) (c := _) (y := _) rfl rfl rfl rfl ?_; simp only [Act.put, List.setIfInBounds_toArray, List.set_cons_zero, List.set_cons_succ])
            | (refine' Seg.pick_and (b := _) (x := _) (c := _) (y := _) rfl rfl rfl rfl ?_; simp only [Act.put, List.setIfInBounds_toArray, List.set_cons_zero, List.set_cons_succ])
            | (refine' Seg.val (v := _) rfl (fun w' hw => ?_) ?_; rotate_left 1; (subst hw; go_simp; rfl); simp only [Act.put, List.setIfInBounds_toArray, List.set_cons_zero, List.set_cons_succ])
            | (refine' Seg.skip ?_ ?_; (focus (first | (rw [Seg.wanted1 rfl rfl]; simp; done) | (rw [Seg.wanted2 rfl rfl]; simp; done))); simp only [Act.put, List.setIfInBounds_toArray, List.set_cons_zero, List.set_cons_succ])
            | (refine' Seg.pick_or_if (b := _) (x := _) (G := _) (c := _) (y := _) (by first | exact Seg.wanted1 rfl rfl | exact Seg.wanted2 rfl rfl) rfl rfl rfl ?_; simp only [Act.put, List.setIfInBounds_toArray, List.set_cons_zero, List.set_cons_succ])
            | (refine' Seg.pick_and_if (b := _) (x := _) (G := _) (c := _) (y := _) (by first | exact Seg.wanted1 rfl rfl | exact Seg.wanted2 rfl rfl) rfl rfl rfl ?_; simp only [Act.put, List.setIfInBounds_toArray, List.set_cons_zero, List.set_cons_succ])
            | (refine' Seg.val_if (v := _) (G := _) (by first | exact Seg.wanted1 rfl rfl | exact Seg.wanted2 rfl rfl) (fun hb w' hw => ?_) ?_; rotate_left 1; (simp only [Bool.and_eq_true, beq_iff_eq] at hb; subst hw; go_simp; rfl); simp only [Act.put, List.setIfInBounds_toArray, List.set_cons_zero, List.set_cons_succ]))
          refine Seg.done ?_
          iterate 26 (generalize Seg.opt _ _ = u)
          generalize hcd : (_ || decide (99999 < rd q.points _)) = cd
          have HX : Hid (clubBad q n = cd) := Lib.hid (by rw [← hcd]; simp [clubBad, HP.out, Bool.or_assoc])
          clear hcd
          cases cd
          · go_wp2
            go_roundw
            case rel =>
              exact ⟨n + 1, by omega, by go_num, Lib.hid (upto HN.out HX.out), trivial⟩
            case measure => simp [intOf]; omega
          · go_wp2
            obtain ⟨W1, hW1, hB1, Z1⟩ := box_over7 Z0 rfl hB0 (by omega)
            rw [hW1]
            refine bodyPost_ret (res21 Z1 rfl rfl rfl) rfl ⟨?_, hB1⟩
            rw [← HRes.out, not_valid hlt HX.out]
            rfl
      · obtain rfl : n = q.clubs.length := by omega
        have hst : ∀ f r c, (store ⟨wr.heap.size, 0, none⟩ (Value.func f r c)).run Try.prog (wr.alloc (.cells #[.nilFunc] 67)) = .ok () (wr.alloc (.cells #[.func f r c] 67)) := by
          intro f r c
          rw [run_store _ _ _ _ _ rfl]
          simp [go_sem]
        go_upto_region 11 with (fail)
        obtain ⟨W1, hW1, hB1, F1⟩ := box1 wr #[.func (.func 36) #[] #[.pointer (some ⟨w.heap.size + 1 + 1, 0, none⟩)]] 67
        rw [hW1]
        clear hW1 hst
        have HB1 := bthen hB0 hB1
        obtain ⟨lx, cx, fx⟩ := X0.below hB1
        have hN := (N0.below hB1).cell 0
        have hF := F1.cell 0
        simp only [List.getElem?_toArray, List.getElem?_cons_zero] at hN hF
        have HG := containsE_any q.clubs.length (w.heap.size + 1 + 1) wr.heap.size A4 c4 q.games W1 (hq0.below hB1).h4 hN hF
        cases hany : q.games.any (badGame q.clubs.length)
        all_goals
          replace hany := Lib.hid hany
          go_wp2_with (go_at_call 37; refine HG.mono ?_; rintro e w' ⟨rfl, hb9⟩; rw [hany.out]; have HB9 := bthen hB1 hb9; obtain ⟨lx, cx, fx⟩ := X0.below HB9; obtain ⟨lz, cz, fz⟩ := Z0.below HB9)
          rename_i w' hb9 HB9
          obtain ⟨W2, hW2, hB2, Z2⟩ := box_over7 (Z0.below HB9) rfl (bthen hB0 HB9) (by omega)
          rw [hW2]
          refine bodyPost_ret (res21 Z2 rfl rfl rfl) rfl ⟨?_, hB2⟩
        · rw [← HRes.out, show validB q = true by rw [validB, HH.out, hany.out, decide_eq_true HN.out]; rfl]
          rfl
        · rw [← HRes.out, show validB q = false by rw [validB, HH.out, hany.out]; simp]
          rfl
  · go_wp2
    obtain ⟨W1, hW1, hB1, Z1⟩ := box_over7 Z0 rfl hB0 (by omega)
    rw [hW1]
    refine bodyPost_ret (res21 Z1 rfl rfl rfl) rfl ⟨?_, hB1⟩
    rw [← HRes.out, show validB q = false by rw [validB, HH.out]; rfl]
    rfl
end Go.Proofs.Ytfmekjpmjefpmaa

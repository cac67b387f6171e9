/- ref.Valid, walked. -/
import Derived.Test.YtfmekjpmjefpmaaWk
set_option linter.unusedSimpArgs false
set_option linter.unusedVariables false
namespace Go.Proofs.Ytfmekjpmjefpmaa
open Go.RowKit

theorem badGame_ref (n : Int) (x : Edge) : ((((decide (x.l < 0) || decide (n ≤ x.l)) || decide (x.r < 0)) || decide (n ≤ x.r)) || (x.l == x.r)) = badGame n x := by
  simp only [badGame]
  by_cases h1 : x.l < 0 <;> by_cases h2 : n ≤ x.l <;> by_cases h3 : x.r < 0 <;> by_cases h4 : n ≤ x.r <;> simp [h1, h2, h3, h4, Int.not_lt.2, Int.not_le.2] <;> omega

set_option maxHeartbeats 8000000 in
set_option maxRecDepth 100000 in
theorem refValid_any (m : RaceM) (w : World) (hq : RaceIn w m) :
    Calls Try.prog 13 #[m.v] w fun e w' => e = .returned (.bool (validB m.q)) ∧ Below w.heap.size w w' := by
  obtain ⟨q, A2, c2, A3, c3, A4, c4⟩ := m
  dsimp only [RaceM.v] at *
  generalize hres : (Ending.returned (.bool (validB q))) = R
  have HRes := Lib.hid hres
  clear hres
  go_enter Try.func13, Try.ntmps13
  go_upto_region 1 with (fail)
  obtain ⟨W0, hW0, hB0, X0⟩ := box1 w #[.int .i64 q.win, .int .i64 q.draw, .slice A2 q.clubs.length c2, .slice A3 q.points.length c3, .slice A4 q.games.length c4, .int .i64 q.club, .int .i64 q.place] 25
  rw [hW0]
  clear hW0
  have hq0 := hq.below hB0
  obtain ⟨lx, cx, fx⟩ := id X0
  go_upto_region 2 with (fail)
  repeat (first | (with_reducible refine Seg.plainE ?_) | go_step)
  repeat (first
    | (refine' Seg.pick_or (b := _) (x := _) (c := _) (y := _) rfl rfl rfl rfl ?_; simp only [Act.put, List.setIfInBounds_toArray, List.set_cons_zero, List.set_cons_succ])
    | (refine' Seg.pick_and (b := _) (x := _) (c := _) (y := _) rfl rfl rfl rfl ?_; simp only [Act.put, List.setIfInBounds_toArray, List.set_cons_zero, List.set_cons_succ])
    | (refine' Seg.val (v := _) rfl (fun w' hw => ?_) ?_; rotate_left 1; (subst hw; go_simp; rfl); simp only [Act.put, List.setIfInBounds_toArray, List.set_cons_zero, List.set_cons_succ])
    | (refine' Seg.skip ?_ ?_; (focus (first | (rw [Seg.wanted1 rfl rfl]; simp; done) | (rw [Seg.wanted2 rfl rfl]; simp; done))); simp only [Act.put, List.setIfInBounds_toArray, List.set_cons_zero, List.set_cons_succ])
    | (refine' Seg.pick_or_if (b := _) (x := _) (G := _) (c := _) (y := _) (by first | exact Seg.wanted1 rfl rfl | exact Seg.wanted2 rfl rfl) rfl rfl rfl ?_; simp only [Act.put, List.setIfInBounds_toArray, List.set_cons_zero, List.set_cons_succ])
    | (refine' Seg.pick_and_if (b := _) (x := _) (G := _) (c := _) (y := _) (by first | exact Seg.wanted1 rfl rfl | exact Seg.wanted2 rfl rfl) rfl rfl rfl ?_; simp only [Act.put, List.setIfInBounds_toArray, List.set_cons_zero, List.set_cons_succ])
    | (refine' Seg.val_if (v := _) (G := _) (by first | exact Seg.wanted1 rfl rfl | exact Seg.wanted2 rfl rfl) (fun hb w' hw => ?_) ?_; rotate_left 1; (simp only [Bool.and_eq_true, beq_iff_eq] at hb; subst hw; go_simp; rfl); simp only [Act.put, List.setIfInBounds_toArray, List.set_cons_zero, List.set_cons_succ]))
  refine Seg.done ?_
  repeat ((conv in Seg.opt _ _ => skip); generalize Seg.opt _ _ = u)
  generalize hcd : (_ || decide ((q.clubs.length : Int) < q.place)) = cd
  have HH : Hid (headBad q = cd) := Lib.hid hcd
  clear hcd
  cases cd
  · have HK := Lib.hid (headOk HH.out)
    have hn1 := HK.out.n1
    have hg1 := HK.out.g1
    go_wp2
    clear lx cx fx
    go_loopw [4] (fun v4 wr => ∃ n : Nat, n ≤ q.clubs.length ∧ v4 = .int .i64 n ∧ Hid (∀ i, i < n → clubBad q i = false) ∧ Below W0.heap.size W0 wr) (fun i _ => q.clubs.length - (intOf i).toNat)
    case atStart => exact ⟨0, by omega, rfl, fun j hj => by omega, Below.refl _ _⟩
    case round =>
      obtain ⟨n, hn, rfl, HN, HB⟩ := hrel
      by_cases hlt : n < q.clubs.length
      · obtain ⟨b2, o2, e2, hb2, hc2, hw2⟩ := (hq0.below HB).h2.int_at (i := n) hlt
        obtain ⟨b3, o3, e3, hb3, hc3, hw3⟩ := (hq0.below HB).h3.int_at (i := n) (by have := HK.out.pl; dsimp only; omega)
        dsimp only at e2 e3 hc2 hc3
        subst e2
        subst e3
        clear hw3
        obtain ⟨lx, cx, fx⟩ := X0.below HB
        have hlt3 : n < q.points.length := by have := HK.out.pl; omega
        rcases Nat.eq_zero_or_pos n with h0 | h0
        · subst h0
          have HP : Hid ((0 : Nat) = 0) := Lib.hid rfl
          simp only [Nat.add_zero] at hc2 hc3
          go_wp2
          refine Seg.regionB (by kernel_rfl) (by kernel_rfl) ?_
          repeat (first
            | (refine' Seg.pick_or (b := _) (x := _) (c := _) (y := _) rfl rfl rfl rfl ?_; simp only [Act.put, List.setIfInBounds_toArray, List.set_cons_zero, List.set_cons_succ])
            | (refine' Seg.pick_and (b := _) (x := _) (c := _) (y := _) rfl rfl rfl rfl ?_; simp only [Act.put, List.setIfInBounds_toArray, List.set_cons_zero, List.set_cons_succ])
            | (refine' Seg.val (v := _) rfl (fun w' hw => ?_) ?_; rotate_left 1; (obtain ⟨hbc, _⟩ := bcell hw; go_simp; rfl); simp only [Act.put, List.setIfInBounds_toArray, List.set_cons_zero, List.set_cons_succ])
            | (refine' Seg.skip ?_ ?_; (focus (first | (rw [Seg.wanted1 rfl rfl]; simp; done) | (rw [Seg.wanted2 rfl rfl]; simp; done))); simp only [Act.put, List.setIfInBounds_toArray, List.set_cons_zero, List.set_cons_succ])
            | (refine' Seg.pick_or_if (b := _) (x := _) (G := _) (c := _) (y := _) (by first | exact Seg.wanted1 rfl rfl | exact Seg.wanted2 rfl rfl) rfl rfl rfl ?_; simp only [Act.put, List.setIfInBounds_toArray, List.set_cons_zero, List.set_cons_succ])
            | (refine' Seg.pick_and_if (b := _) (x := _) (G := _) (c := _) (y := _) (by first | exact Seg.wanted1 rfl rfl | exact Seg.wanted2 rfl rfl) rfl rfl rfl ?_; simp only [Act.put, List.setIfInBounds_toArray, List.set_cons_zero, List.set_cons_succ])
            | (refine' Seg.val_if (v := _) (G := _) (by first | exact Seg.wanted1 rfl rfl | exact Seg.wanted2 rfl rfl) (fun hb w' hw => ?_) ?_; rotate_left 1; (simp only [Bool.and_eq_true, beq_iff_eq] at hb; obtain ⟨hbc, _⟩ := bcell hw; go_simp; rfl); simp only [Act.put, List.setIfInBounds_toArray, List.set_cons_zero, List.set_cons_succ]))
          intro w3 hw3
          clear lx cx fx hc2 hc3
          repeat ((conv in Seg.opt _ _ => skip); generalize Seg.opt _ _ = u)
          generalize hcd : (_ || decide (99999 < rd q.points _)) = cd
          have HX : Hid (clubBad q 0 = cd) := Lib.hid (by rw [← hcd]; simp [clubBad, HP.out, Bool.or_assoc])
          clear hcd
          cases cd
          · go_wp2
            go_roundw
            case rel => exact ⟨0 + 1, by omega, by go_num, Lib.hid (upto HN.out HX.out), bthen HB hw3⟩
            case measure => simp [intOf]; omega
          · go_wp2
            go_ret
            refine ⟨?_, bthen hB0 (bthen HB hw3)⟩
            rw [← HRes.out, not_valid hlt HX.out]
            rfl
        · obtain ⟨p, hp⟩ : ∃ p : Nat, n = p + 1 := ⟨n - 1, by omega⟩
          have hlp : p < q.clubs.length := by omega
          have hw1 : IntKind.i64.wrap ((n:Int) - 1) = (p : Int) := by rw [IntWalk.i64_in _ (by omega)]; omega
          have HP := Lib.hid hp
          clear hp
          obtain ⟨b', o', e', hb', hc', hw'⟩ := (hq0.below HB).h2.int_at (i := p) hlp
          cases e'
          dsimp only at hc'
          go_wp2
          refine Seg.regionB (by kernel_rfl) (by kernel_rfl) ?_
          repeat (first
            | (refine' Seg.pick_or (b := _) (x := _) (c := _) (y := _) rfl rfl rfl rfl ?_; simp only [Act.put, List.setIfInBounds_toArray, List.set_cons_zero, List.set_cons_succ])
            | (refine' Seg.pick_and (b := _) (x := _) (c := _) (y := _) rfl rfl rfl rfl ?_; simp only [Act.put, List.setIfInBounds_toArray, List.set_cons_zero, List.set_cons_succ])
            | (refine' Seg.val (v := _) rfl (fun w' hw => ?_) ?_; rotate_left 1; (obtain ⟨hbc, _⟩ := bcell hw; go_simp; rfl); simp only [Act.put, List.setIfInBounds_toArray, List.set_cons_zero, List.set_cons_succ])
            | (refine' Seg.skip ?_ ?_; (focus (first | (rw [Seg.wanted1 rfl rfl]; simp; done) | (rw [Seg.wanted2 rfl rfl]; simp; done))); simp only [Act.put, List.setIfInBounds_toArray, List.set_cons_zero, List.set_cons_succ])
            | (refine' Seg.pick_or_if (b := _) (x := _) (G := _) (c := _) (y := _) (by first | exact Seg.wanted1 rfl rfl | exact Seg.wanted2 rfl rfl) rfl rfl rfl ?_; simp only [Act.put, List.setIfInBounds_toArray, List.set_cons_zero, List.set_cons_succ])
            | (refine' Seg.pick_and_if (b := _) (x := _) (G := _) (c := _) (y := _) (by first | exact Seg.wanted1 rfl rfl | exact Seg.wanted2 rfl rfl) rfl rfl rfl ?_; simp only [Act.put, List.setIfInBounds_toArray, List.set_cons_zero, List.set_cons_succ])
            | (refine' Seg.val_if (v := _) (G := _) (by first | exact Seg.wanted1 rfl rfl | exact Seg.wanted2 rfl rfl) (fun hb w' hw => ?_) ?_; rotate_left 1; (simp only [Bool.and_eq_true, beq_iff_eq] at hb; obtain ⟨hbc, _⟩ := bcell hw; go_simp; rfl); simp only [Act.put, List.setIfInBounds_toArray, List.set_cons_zero, List.set_cons_succ]))
          intro w3 hw3
          clear lx cx fx hc2 hc3 hc'
          repeat ((conv in Seg.opt _ _ => skip); generalize Seg.opt _ _ = u)
          generalize hcd : (_ || decide (99999 < rd q.points _)) = cd
          have HX : Hid (clubBad q n = cd) := Lib.hid (by rw [← hcd]; simp [clubBad, HP.out, Bool.or_assoc])
          clear hcd
          cases cd
          · go_wp2
            go_roundw
            case rel => exact ⟨n + 1, by omega, by go_num, Lib.hid (upto HN.out HX.out), bthen HB hw3⟩
            case measure => simp [intOf]; omega
          · go_wp2
            go_ret
            refine ⟨?_, bthen hB0 (bthen HB hw3)⟩
            rw [← HRes.out, not_valid hlt HX.out]
            rfl
      · obtain rfl : n = q.clubs.length := by omega
        obtain ⟨lx, cx, fx⟩ := X0.below HB
        go_wp2
        clear lx cx fx
        go_loopw [5] (fun v5 w4 => ∃ n : Nat, n ≤ q.games.length ∧ v5 = .int .i64 n ∧ Hid (∀ i, i < n → badGame q.clubs.length (rdE q.games i) = false) ∧ Below W0.heap.size W0 w4) (fun i _ => q.games.length - (intOf i).toNat)
        case atStart => exact ⟨0, by omega, rfl, fun j hj => by omega, HB⟩
        case round =>
          obtain ⟨n, hn, rfl, HM, HC⟩ := hrel
          by_cases hlt : n < q.games.length
          · obtain ⟨lx, cx, fx⟩ := X0.below HC
            obtain ⟨b4, o4, e4, hb4, hel, her, wl, wr'⟩ := (hq0.below HC).h4.edge_at hlt
            dsimp only at e4
            subst e4
            go_upto_region 13 with (fail)
            clear lx cx fx hb4 hel her
            obtain ⟨W2, hW2, hB2, Z2⟩ := box1 wr #[.int .i64 (rdE q.games n).l, .int .i64 (rdE q.games n).r] 51
            rw [hW2]
            clear hW2
            have HC2 := bthen HC hB2
            obtain ⟨lz, cz, fz⟩ := id Z2
            repeat (first | (with_reducible refine Seg.plainE ?_) | go_step)
            repeat (first
              | (refine' Seg.pick_or (b := _) (x := _) (c := _) (y := _) rfl rfl rfl rfl ?_; simp only [Act.put, List.setIfInBounds_toArray, List.set_cons_zero, List.set_cons_succ])
              | (refine' Seg.pick_and (b := _) (x := _) (c := _) (y := _) rfl rfl rfl rfl ?_; simp only [Act.put, List.setIfInBounds_toArray, List.set_cons_zero, List.set_cons_succ])
              | (refine' Seg.val (v := _) rfl (fun w' hw => ?_) ?_; rotate_left 1; (subst hw; go_simp; rfl); simp only [Act.put, List.setIfInBounds_toArray, List.set_cons_zero, List.set_cons_succ])
              | (refine' Seg.skip ?_ ?_; (focus (first | (rw [Seg.wanted1 rfl rfl]; simp; done) | (rw [Seg.wanted2 rfl rfl]; simp; done))); simp only [Act.put, List.setIfInBounds_toArray, List.set_cons_zero, List.set_cons_succ])
              | (refine' Seg.pick_or_if (b := _) (x := _) (G := _) (c := _) (y := _) (by first | exact Seg.wanted1 rfl rfl | exact Seg.wanted2 rfl rfl) rfl rfl rfl ?_; simp only [Act.put, List.setIfInBounds_toArray, List.set_cons_zero, List.set_cons_succ])
              | (refine' Seg.pick_and_if (b := _) (x := _) (G := _) (c := _) (y := _) (by first | exact Seg.wanted1 rfl rfl | exact Seg.wanted2 rfl rfl) rfl rfl rfl ?_; simp only [Act.put, List.setIfInBounds_toArray, List.set_cons_zero, List.set_cons_succ])
              | (refine' Seg.val_if (v := _) (G := _) (by first | exact Seg.wanted1 rfl rfl | exact Seg.wanted2 rfl rfl) (fun hb w' hw => ?_) ?_; rotate_left 1; (simp only [Bool.and_eq_true, beq_iff_eq] at hb; subst hw; go_simp; rfl); simp only [Act.put, List.setIfInBounds_toArray, List.set_cons_zero, List.set_cons_succ]))
            refine Seg.done ?_
            clear lz cz fz
            obtain ⟨lx, cx, fx⟩ := X0.below HC2
            repeat ((conv in Seg.opt _ _ => skip); generalize Seg.opt _ _ = u)
            generalize hcd : (_ || ((rdE q.games n).l == (rdE q.games n).r)) = cd
            have HX : Hid (badGame q.clubs.length (rdE q.games n) = cd) := Lib.hid (by rw [← hcd, badGame_ref])
            clear hcd
            cases cd
            · go_wp2
              go_roundw
              case rel => exact ⟨n + 1, by omega, by go_num, Lib.hid (upto (p := fun i => badGame q.clubs.length (rdE q.games i)) HM.out HX.out), HC2⟩
              case measure => simp [intOf]; omega
            · go_wp2
              go_ret
              refine ⟨?_, bthen hB0 HC2⟩
              rw [← HRes.out, show validB q = false by rw [validB, any_rdE.2 ⟨n, hlt, HX.out⟩]; simp]
              rfl
          · obtain rfl : n = q.games.length := by omega
            obtain ⟨lx, cx, fx⟩ := X0.below HC
            go_wp2
            go_ret
            refine ⟨?_, bthen hB0 HC⟩
            rw [← HRes.out, show validB q = true by
              rw [validB, HH.out, decide_eq_true HN.out]
              cases hb : q.games.any (badGame q.clubs.length) with
              | false => rfl
              | true => obtain ⟨i, hi, h⟩ := any_rdE.1 hb; rw [HM.out i hi] at h; cases h]
            rfl
  · go_wp2
    go_ret
    refine ⟨?_, hB0⟩
    rw [← HRes.out, show validB q = false by rw [validB, HH.out]; rfl]
    rfl
end Go.Proofs.Ytfmekjpmjefpmaa

/- ref.Above, walked. -/
import Derived.Test.YtfmekjpmjefpmaaWj
set_option linter.unusedSimpArgs false
set_option linter.unusedVariables false
namespace Go.Proofs.Ytfmekjpmjefpmaa
open Go.RowKit

theorem moreTo_step {q : Race} {p : List Int} {k : Nat} {cd : Bool} (h : (((k : Int) != q.club) && decide (rd p q.club.toNat < rd p k)) = cd) : moreTo q p (k + 1) = moreTo q p k + if cd = true then 1 else 0 := by
  subst h
  simp only [moreTo, Bool.and_eq_true, bne_iff_ne, decide_eq_true_eq]
theorem manyTo_step {q : Race} {p : List Int} {k : Nat} {cd : Bool} (h : (((k : Int) != q.club) && decide (rd p q.club.toNat ≤ rd p k)) = cd) : manyTo q p (k + 1) = manyTo q p k + if cd = true then 1 else 0 := by
  subst h
  simp only [manyTo, Bool.and_eq_true, bne_iff_ne, decide_eq_true_eq]

set_option maxHeartbeats 4000000 in
set_option maxRecDepth 100000 in
theorem refAbove_any (m : RaceM) (B : Option Addr) (d : Nat) (p : List Int) (w : World) (ho : Row (Kd.int .i64) w B p) (hg : Good m.q) (hpl : p.length = m.q.points.length) :
    Calls Try.prog 14 #[m.v, .slice B p.length d] w fun e w' => e = .returned (.tuple #[.int .i64 (moreTo m.q p p.length), .int .i64 (manyTo m.q p p.length)]) ∧ Below w.heap.size w w' := by
  obtain ⟨q, A2, c2, A3, c3, A4, c4⟩ := m
  dsimp only [RaceM.v] at *
  have hcl0 := hg.c0
  have hcl1 : q.club < p.length := by have := hg.c1; have := hg.pl; omega
  have hp24 : p.length ≤ 24 := by have := hg.n1; have := hg.pl; omega
  clear hg hpl
  obtain ⟨b, o, rfl, _⟩ := ho.int_at (i := q.club.toNat) (by omega)
  go_enter Try.func14, Try.ntmps14
  go_upto_region 1 with (fail)
  obtain ⟨W0, hW0, hB0, X0⟩ := box1 w #[.int .i64 q.win, .int .i64 q.draw, .slice A2 q.clubs.length c2, .slice A3 q.points.length c3, .slice A4 q.games.length c4, .int .i64 q.club, .int .i64 q.place] 25
  rw [hW0]
  clear hW0
  have ho0 := ho.below hB0
  go_wp2
  go_loopw [6, 7, 8] (fun v6 v7 v8 wr => ∃ k : Nat, k ≤ p.length ∧ v8 = .int .i64 k ∧ v6 = .int .i64 (moreTo q p k) ∧ v7 = .int .i64 (manyTo q p k) ∧ Below W0.heap.size W0 wr) (fun _ _ i _ => p.length - (intOf i).toNat)
  case atStart => exact ⟨0, by omega, rfl, rfl, rfl, Below.refl _ _⟩
  case round =>
    obtain ⟨k, hk, rfl, rfl, rfl, HB⟩ := hrel
    by_cases hlt : k < p.length
    · obtain ⟨lx, cx, fx⟩ := X0.below HB
      obtain ⟨b1, o1, e1, hb1, hc1, hw1⟩ := (ho0.below HB).int_at (i := k) hlt
      cases e1
      obtain ⟨b2, o2, e2, hb2, hc2, hw2⟩ := (ho0.below HB).int_at (i := q.club.toNat) (by omega)
      cases e2
      clear hw1 hw2
      have hm1 := moreTo_bd q p k
      have hm2 := manyTo_bd q p k
      go_wp2
      refine Seg.regionB (by kernel_rfl) (by kernel_rfl) ?_
      repeat (first
        | (refine' Seg.pick_or (b := _) (x := _) (c := _) (y := _) rfl rfl rfl rfl ?_; simp only [Act.put, List.setIfInBounds_toArray, List.set_cons_zero, List.set_cons_succ])
        | (refine' Seg.pick_and (b := _) (x := _) (c := _) (y := _) rfl rfl rfl rfl ?_; simp only [Act.put, List.setIfInBounds_toArray, List.set_cons_zero, List.set_cons_succ])
        | (refine' Seg.val (v := _) rfl (fun w' hw => ?_) ?_; rotate_left 1; (obtain ⟨hbc, _⟩ := bcell hw; go_simp; rfl); simp only [Act.put, List.setIfInBounds_toArray, List.set_cons_zero, List.set_cons_succ])
        | (refine' Seg.skip ?_ ?_; (focus (first | (rw [Seg.wanted1 rfl rfl]; simp; done) | (rw [Seg.wanted2 rfl rfl]; simp; done))); simp only [Act.put, List.setIfInBounds_toArray, List.set_cons_zero, List.set_cons_succ])
        | (refine' Seg.pick_or_if (b := _) (x := _) (G := _) (c := _) (y := _) (by first | exact Seg.wanted1 rfl rfl | exact Seg.wanted2 rfl rfl) rfl rfl rfl ?_; simp only [Act.put, List.setIfInBounds_toArray, List.set_cons_zero, List.set_cons_succ])
        | (refine' Seg.pick_and_if (b := _) (x := _) (G := _) (c := _) (y := _) (by first | exact Seg.wanted1 rfl rfl | exact Seg.wanted2 rfl rfl) rfl rfl rfl ?_; simp only [Act.put, List.setIfInBounds_toArray, List.set_cons_zero, List.set_cons_succ])
        | (refine' Seg.val_if (v := _) (G := _) (by first | exact Seg.wanted1 rfl rfl | exact Seg.wanted2 rfl rfl) (fun hb w' hw => ?_) ?_; rotate_left 1; (simp only [Bool.and_eq_true, beq_iff_eq] at hb; obtain ⟨hbc, _⟩ := bcell hw; go_simp; rfl); simp only [Act.put, List.setIfInBounds_toArray, List.set_cons_zero, List.set_cons_succ]))
      intro w3 hw3
      clear lx cx fx hc1 hc2 hb1 hb2
      have HB3 := bthen HB hw3
      obtain ⟨lx, cx, fx⟩ := X0.below HB3
      obtain ⟨b1, o1, e1, hb1, hc1, hw1⟩ := (ho0.below HB3).int_at (i := k) hlt
      cases e1
      obtain ⟨b2, o2, e2, hb2, hc2, hw2⟩ := (ho0.below HB3).int_at (i := q.club.toNat) (by omega)
      cases e2
      clear hw1 hw2
      iterate 10 (generalize Seg.opt _ _ = u)
      generalize hcd : (_ && _) = cd
      have HX := Lib.hid (moreTo_step hcd)
      clear hcd
      cases cd
      all_goals
        go_wp2
        refine Seg.regionB (by kernel_rfl) (by kernel_rfl) ?_
        repeat (first
          | (refine' Seg.pick_or (b := _) (x := _) (c := _) (y := _) rfl rfl rfl rfl ?_; simp only [Act.put, List.setIfInBounds_toArray, List.set_cons_zero, List.set_cons_succ])
          | (refine' Seg.pick_and (b := _) (x := _) (c := _) (y := _) rfl rfl rfl rfl ?_; simp only [Act.put, List.setIfInBounds_toArray, List.set_cons_zero, List.set_cons_succ])
          | (refine' Seg.val (v := _) rfl (fun w' hw => ?_) ?_; rotate_left 1; (obtain ⟨hbc, _⟩ := bcell hw; go_simp; rfl); simp only [Act.put, List.setIfInBounds_toArray, List.set_cons_zero, List.set_cons_succ])
          | (refine' Seg.skip ?_ ?_; (focus (first | (rw [Seg.wanted1 rfl rfl]; simp; done) | (rw [Seg.wanted2 rfl rfl]; simp; done))); simp only [Act.put, List.setIfInBounds_toArray, List.set_cons_zero, List.set_cons_succ])
          | (refine' Seg.pick_or_if (b := _) (x := _) (G := _) (c := _) (y := _) (by first | exact Seg.wanted1 rfl rfl | exact Seg.wanted2 rfl rfl) rfl rfl rfl ?_; simp only [Act.put, List.setIfInBounds_toArray, List.set_cons_zero, List.set_cons_succ])
          | (refine' Seg.pick_and_if (b := _) (x := _) (G := _) (c := _) (y := _) (by first | exact Seg.wanted1 rfl rfl | exact Seg.wanted2 rfl rfl) rfl rfl rfl ?_; simp only [Act.put, List.setIfInBounds_toArray, List.set_cons_zero, List.set_cons_succ])
          | (refine' Seg.val_if (v := _) (G := _) (by first | exact Seg.wanted1 rfl rfl | exact Seg.wanted2 rfl rfl) (fun hb w' hw => ?_) ?_; rotate_left 1; (simp only [Bool.and_eq_true, beq_iff_eq] at hb; obtain ⟨hbc, _⟩ := bcell hw; go_simp; rfl); simp only [Act.put, List.setIfInBounds_toArray, List.set_cons_zero, List.set_cons_succ]))
        intro w5 hw5
        clear lx cx fx hc1 hc2 hb1 hb2
        have HB5 := bthen HB3 hw5
        iterate 10 (generalize Seg.opt _ _ = u)
        generalize hcd : ((k : Int) != q.club && decide (rd p q.club.toNat ≤ rd p k)) = cd
        have HY := Lib.hid (manyTo_step hcd)
        clear hcd
        cases cd
        all_goals
          go_wp2
          go_roundw
          case rel => exact ⟨k + 1, by omega, by go_num, by rw [HX.out]; simp, by rw [HY.out]; simp, HB5⟩
          case measure => simp [intOf]; omega
    · obtain rfl : k = p.length := by omega
      go_wp2
      exact bodyPost_ret (results_tmp2 rfl _ _ _) rfl ⟨rfl, bthen hB0 HB⟩
end Go.Proofs.Ytfmekjpmjefpmaa

/- Clone and above, walked. -/
import Derived.Test.YtfmekjpmjefpmaaWe
import Derived.Test.YtfmekjpmjefpmaaPure2
set_option linter.unusedSimpArgs false
set_option linter.unusedVariables false
namespace Go.Proofs.Ytfmekjpmjefpmaa
open Go.RowKit
theorem OwnI.frozen {k : IntKind} {e : TypeId} {w : World} {base g c : Nat} {xs : List Int} (h : OwnI k e w base (some ⟨g, 0, none⟩) c xs) (j : Nat) : w.frozen? ⟨g, j, none⟩ = false := by
  rcases h.form with ⟨h, _⟩ | ⟨g', cur, h1, _, h3, _⟩
  · cases h
  · cases h1
    simp [World.frozen?, h3]
theorem OwnI.int_at {k : IntKind} {e : TypeId} {w : World} {base g c : Nat} {xs : List Int} (h : OwnI k e w base (some ⟨g, 0, none⟩) c xs) {j : Nat} (hj : j < xs.length) : w.cell? ⟨g, j, none⟩ = some (.int k (rd xs j)) := by
  obtain ⟨b, o, e, _, hc, _⟩ := h.row.int_at hj
  cases e
  simpa using hc
def OwnPost (l : List Int) (w : World) (e : Ending) (w' : World) : Prop := ∃ B d, e = .returned (.slice B l.length d) ∧ OwnI .i64 3 w' w.heap.size B d l ∧ Below w.heap.size w w'
set_option maxHeartbeats 4000000 in
set_option maxRecDepth 100000 in
theorem clone_any (A : Option Addr) (c : Nat) (l : List Int) (w : World) (hl : Row (Kd.int .i64) w A l) (hA : l ≠ []) (hlen : l.length ≤ 1000000) :
    Calls Try.prog 50 #[.slice A l.length c] w (OwnPost l w) := by
  obtain ⟨b, o, rfl, hb, hc⟩ := hl.2 hA
  clear hc
  have hcmp : ∀ w, (binOp .eql 22 (.slice (some ⟨b, o, none⟩) l.length c) (.slice none 0 0)).run Try.prog w = .ok (.bool false) w := fun w => by kernel_rfl
  go_enter Try.func50, Try.ntmps50
  have HL := Lib.hid hl
  clear hl
  go_wp2_with (at_builtin; refine appendL rfl _ _ 22 rfl Try.underlying22 infoI rfl (OwnI.made .i64 3 w (Nat.le_refl _)) (some ⟨b, o, none⟩) c l hA rfl (HL.out.below (balloc0 _ _)) (by simp; exact hlen) (by simp) ?_; intro g cap w4 hO4 hg4 hn4 hl4)
  go_ret
  refine ⟨_, _, rfl, hO4, ?_⟩
  exact (balloc0 w _).grown hg4 (by simp) (fun q hq => by simp [Value.ownBlock] at hq; omega)

set_option maxHeartbeats 8000000 in
set_option maxRecDepth 100000 in
theorem above_any (m : RaceM) (B : Option Addr) (d : Nat) (o : List Int) (w : World) (hq : RaceIn w m) (ho : Row (Kd.int .i64) w B o) (hol : o.length = m.q.games.length) (hg : Good m.q) :
    Calls Try.prog 28 #[m.v, .slice B o.length d] w fun e w' => e = .returned (.tuple #[.int .i64 (more m.q o), .int .i64 (many m.q o)]) ∧ Below w.heap.size w w' := by
  obtain ⟨q, A2, c2, A3, c3, A4, c4⟩ := m
  dsimp only [RaceM.v] at *
  have HG := Lib.hid hg
  have HOL := Lib.hid hol
  clear hg hol
  have hpl := HG.out.pl
  have hn0 := HG.out.n0
  have hn1 := HG.out.n1
  have hg1 := HG.out.g1
  have hpn : q.points ≠ [] := by intro e; rw [e] at hpl; simp at hpl; omega
  have hp24 : q.points.length ≤ 24 := by omega
  have hcl0 := HG.out.c0
  have hcl1 : q.club < q.points.length := by have := HG.out.c1; omega
  clear hpl hn0 hn1
  go_enter Try.func28, Try.ntmps28
  go_upto_region 1 with (fail)
  obtain ⟨W0, hW0, hB0, X0⟩ := box1 w #[.int .i64 q.win, .int .i64 q.draw, .slice A2 q.clubs.length c2, .slice A3 q.points.length c3, .slice A4 q.games.length c4, .int .i64 q.club, .int .i64 q.place] 53
  rw [hW0]
  clear hW0
  have hq0 := hq.below hB0
  have ho0 := ho.below hB0
  obtain ⟨lx, cx, fx⟩ := id X0
  have HCl := clone_any A3 c3 q.points W0 hq0.h3 hpn (by omega)
  go_wp2_with (go_at_call 50; refine HCl.mono ?_; rintro e w' ⟨C, cap, rfl, hO, hb9⟩; obtain ⟨lx, cx, fx⟩ := X0.below hb9)
  obtain ⟨g, rfl, hgb⟩ : ∃ g, C = some ⟨g, 0, none⟩ ∧ W0.heap.size ≤ g := by
    rcases hO.form with ⟨_, _, h⟩ | ⟨g, cur, h, hb, _⟩
    · exact absurd h hpn
    · exact ⟨g, h, hb⟩
  clear lx cx fx HCl
  have hS0 : W0.heap.size ≤ w'.heap.size := hb9.size
  go_loopw [20] (fun v20 wr => ∃ n : Nat, n ≤ q.games.length ∧ v20 = .int .i64 n ∧ OwnI .i64 3 wr W0.heap.size (some ⟨g, 0, none⟩) cap (afterTo q o n) ∧ Below W0.heap.size W0 wr) (fun i _ => q.games.length - (intOf i).toNat)
  case atStart => exact ⟨0, by omega, rfl, hO, hb9⟩
  case round =>
    obtain ⟨n, hn, rfl, hP, HB⟩ := hrel
    by_cases hlt : n < q.games.length
    · obtain ⟨lx, cx, fx⟩ := X0.below HB
      obtain ⟨b4, o4, e4, hb4, hel, her, wl, wr'⟩ := (hq0.below HB).h4.edge_at hlt
      dsimp only at e4
      subst e4
      obtain ⟨b1, o1, rfl, hb1, hc1, hw1⟩ := (ho0.below HB).int_at (i := n) (by have := HOL.out; omega)
      have hno : n < o.length := by have := HOL.out; omega
      have HE := Lib.hid (HG.out.gm n hlt)
      obtain ⟨hl0, hl1, hr0, hr1, hlr⟩ := HE.out
      have hpl := HG.out.pl
      have hl1' : (rdE q.games n).l < q.points.length := by omega
      have hr1' : (rdE q.games n).r < q.points.length := by omega
      clear hpl hl1 hr1
      go_upto_region 5 with (fail)
      clear lx cx fx hb4 hel her hb1 hc1
      obtain ⟨W2, hW2, hB2, Z2⟩ := box1 wr #[.int .i64 (rdE q.games n).l, .int .i64 (rdE q.games n).r] 51
      rw [hW2]
      clear hW2
      have HB2 := bthen HB hB2
      have hP2 := hP.below hB2
      have hwb : some wr.heap.size ≠ some g := fun e => by have := (hP.new g rfl).2; injection e; omega
      have hgg := hP.new g rfl
      have hlen := afterTo_len q o n
      have hbd := afterTo_bd HG.out o n (by omega)
      obtain ⟨lx, cx, fx⟩ := X0.below HB2
      obtain ⟨lz, cz, fz⟩ := id Z2
      obtain ⟨b5, o5, e5, hb5, hc5, hw5⟩ := (ho0.below HB2).int_at (i := n) hno
      cases e5
      by_cases h1 : rd o n = 1
      · go_upto_region 9 with (fail)
        have hj6 : (rdE q.games n).l.toNat < (afterTo q o n).length := by rw [hlen]; omega
        have hc6 := hP2.int_at hj6
        have hbd6 := hbd (rdE q.games n).l.toNat
        have hg6 : g < W2.heap.size := (hP2.new g rfl).2
        have hin6 : -9223372036854775808 ≤ rd (afterTo q o n) (rdE q.games n).l.toNat + q.win ∧ rd (afterTo q o n) (rdE q.games n).l.toNat + q.win ≤ 9223372036854775807 := by have := HG.out.w1; have := HG.out.d0; have := HG.out.d1; omega
        have hwr6 : IntKind.i64.wrap (rd (afterTo q o n) (rdE q.games n).l.toNat + q.win) = rd (afterTo q o n) (rdE q.games n).l.toNat + q.win := IntWalk.i64_in _ (by omega)
        refine Seg.region 10 (by kernel_rfl) (by kernel_rfl) (by kernel_rfl) (by kernel_rfl) (Below W2.heap.size W2) (Below.refl _ _).drew ?_
        repeat (first
          | (refine' Seg.pick_or (b := _) (x := _) (c := _) (y := _) rfl rfl rfl rfl ?_; simp only [Act.put, List.setIfInBounds_toArray, List.set_cons_zero, List.set_cons_succ])
          | (refine' Seg.pick_and (b := _) (x := _) (c := _) (y := _) rfl rfl rfl rfl ?_; simp only [Act.put, List.setIfInBounds_toArray, List.set_cons_zero, List.set_cons_succ])
          | (refine' Seg.val (v := _) rfl (fun w' hw => ?_) ?_; rotate_left 1; (obtain ⟨hbc, _⟩ := bcell hw; go_simp; rfl); simp only [Act.put, List.setIfInBounds_toArray, List.set_cons_zero, List.set_cons_succ])
          | (refine' Seg.skip ?_ ?_; (focus (first | (rw [Seg.wanted1 rfl rfl]; simp; done) | (rw [Seg.wanted2 rfl rfl]; simp; done))); simp only [Act.put, List.setIfInBounds_toArray, List.set_cons_zero, List.set_cons_succ])
          | (refine' Seg.pick_or_if (b := _) (x := _) (G := _) (c := _) (y := _) (by first | exact Seg.wanted1 rfl rfl | exact Seg.wanted2 rfl rfl) rfl rfl rfl ?_; simp only [Act.put, List.setIfInBounds_toArray, List.set_cons_zero, List.set_cons_succ])
          | (refine' Seg.pick_and_if (b := _) (x := _) (G := _) (c := _) (y := _) (by first | exact Seg.wanted1 rfl rfl | exact Seg.wanted2 rfl rfl) rfl rfl rfl ?_; simp only [Act.put, List.setIfInBounds_toArray, List.set_cons_zero, List.set_cons_succ])
          | (refine' Seg.val_if (v := _) (G := _) (by first | exact Seg.wanted1 rfl rfl | exact Seg.wanted2 rfl rfl) (fun hb w' hw => ?_) ?_; rotate_left 1; (simp only [Bool.and_eq_true, beq_iff_eq] at hb; obtain ⟨hbc, _⟩ := bcell hw; go_simp; rfl); simp only [Act.put, List.setIfInBounds_toArray, List.set_cons_zero, List.set_cons_succ]))
        intro w6 hw6
        have hP6' := hP2.below hw6
        refine store1 (v := .int .i64 (rd (afterTo q o n) (rdE q.games n).l.toNat + q.win)) rfl 3 _ _ rfl rfl rfl rfl rfl (by kernel_rfl) (hP6'.int_at hj6) (hP6'.frozen _) ?_
        have hP6S := hP6'.set hj6 (WalkArith.wf_i64 hin6)
        have HB6S := bset (j := (rdE q.games n).l.toNat) (v := .int .i64 (rd (afterTo q o n) (rdE q.games n).l.toNat + q.win)) (bthen HB2 hw6) hgb
        have HA : Hid (afterTo q o (n + 1) = (afterTo q o n).set (rdE q.games n).l.toNat (rd (afterTo q o n) (rdE q.games n).l.toNat + q.win)) := Lib.hid (by rw [afterTo, stepTo, if_pos h1, bump])
        rw [← HA.out] at hP6S
        go_wp2
        go_roundw
        case rel => exact ⟨n + 1, by omega, by go_num, hP6S, HB6S⟩
        case measure => simp [intOf]; omega
      · by_cases h3 : rd o n = 3
        · go_upto_region 11 with (fail)
          have hj6 : (rdE q.games n).r.toNat < (afterTo q o n).length := by rw [hlen]; omega
          have hc6 := hP2.int_at hj6
          have hbd6 := hbd (rdE q.games n).r.toNat
          have hg6 : g < W2.heap.size := (hP2.new g rfl).2
          have hin6 : -9223372036854775808 ≤ rd (afterTo q o n) (rdE q.games n).r.toNat + q.win ∧ rd (afterTo q o n) (rdE q.games n).r.toNat + q.win ≤ 9223372036854775807 := by have := HG.out.w1; have := HG.out.d0; have := HG.out.d1; omega
          have hwr6 : IntKind.i64.wrap (rd (afterTo q o n) (rdE q.games n).r.toNat + q.win) = rd (afterTo q o n) (rdE q.games n).r.toNat + q.win := IntWalk.i64_in _ (by omega)
          refine Seg.region 10 (by kernel_rfl) (by kernel_rfl) (by kernel_rfl) (by kernel_rfl) (Below W2.heap.size W2) (Below.refl _ _).drew ?_
          repeat (first
            | (refine' Seg.pick_or (b := _) (x := _) (c := _) (y := _) rfl rfl rfl rfl ?_; simp only [Act.put, List.setIfInBounds_toArray, List.set_cons_zero, List.set_cons_succ])
            | (refine' Seg.pick_and (b := _) (x := _) (c := _) (y := _) rfl rfl rfl rfl ?_; simp only [Act.put, List.setIfInBounds_toArray, List.set_cons_zero, List.set_cons_succ])
            | (refine' Seg.val (v := _) rfl (fun w' hw => ?_) ?_; rotate_left 1; (obtain ⟨hbc, _⟩ := bcell hw; go_simp; rfl); simp only [Act.put, List.setIfInBounds_toArray, List.set_cons_zero, List.set_cons_succ])
            | (refine' Seg.skip ?_ ?_; (focus (first | (rw [Seg.wanted1 rfl rfl]; simp; done) | (rw [Seg.wanted2 rfl rfl]; simp; done))); simp only [Act.put, List.setIfInBounds_toArray, List.set_cons_zero, List.set_cons_succ])
            | (refine' Seg.pick_or_if (b := _) (x := _) (G := _) (c := _) (y := _) (by first | exact Seg.wanted1 rfl rfl | exact Seg.wanted2 rfl rfl) rfl rfl rfl ?_; simp only [Act.put, List.setIfInBounds_toArray, List.set_cons_zero, List.set_cons_succ])
            | (refine' Seg.pick_and_if (b := _) (x := _) (G := _) (c := _) (y := _) (by first | exact Seg.wanted1 rfl rfl | exact Seg.wanted2 rfl rfl) rfl rfl rfl ?_; simp only [Act.put, List.setIfInBounds_toArray, List.set_cons_zero, List.set_cons_succ])
            | (refine' Seg.val_if (v := _) (G := _) (by first | exact Seg.wanted1 rfl rfl | exact Seg.wanted2 rfl rfl) (fun hb w' hw => ?_) ?_; rotate_left 1; (simp only [Bool.and_eq_true, beq_iff_eq] at hb; obtain ⟨hbc, _⟩ := bcell hw; go_simp; rfl); simp only [Act.put, List.setIfInBounds_toArray, List.set_cons_zero, List.set_cons_succ]))
          intro w6 hw6
          have hP6' := hP2.below hw6
          refine store1 (v := .int .i64 (rd (afterTo q o n) (rdE q.games n).r.toNat + q.win)) rfl 3 _ _ rfl rfl rfl rfl rfl (by kernel_rfl) (hP6'.int_at hj6) (hP6'.frozen _) ?_
          have hP6S := hP6'.set hj6 (WalkArith.wf_i64 hin6)
          have HB6S := bset (j := (rdE q.games n).r.toNat) (v := .int .i64 (rd (afterTo q o n) (rdE q.games n).r.toNat + q.win)) (bthen HB2 hw6) hgb
          have HA : Hid (afterTo q o (n + 1) = (afterTo q o n).set (rdE q.games n).r.toNat (rd (afterTo q o n) (rdE q.games n).r.toNat + q.win)) := Lib.hid (by rw [afterTo, stepTo, if_neg h1, if_pos h3, bump])
          rw [← HA.out] at hP6S
          go_wp2
          go_roundw
          case rel => exact ⟨n + 1, by omega, by go_num, hP6S, HB6S⟩
          case measure => simp [intOf]; omega
        · go_upto_region 6 with (fail)
          have hj6 : (rdE q.games n).l.toNat < (afterTo q o n).length := by rw [hlen]; omega
          have hc6 := hP2.int_at hj6
          have hbd6 := hbd (rdE q.games n).l.toNat
          have hg6 : g < W2.heap.size := (hP2.new g rfl).2
          have hin6 : -9223372036854775808 ≤ rd (afterTo q o n) (rdE q.games n).l.toNat + q.draw ∧ rd (afterTo q o n) (rdE q.games n).l.toNat + q.draw ≤ 9223372036854775807 := by have := HG.out.w1; have := HG.out.d0; have := HG.out.d1; omega
          have hwr6 : IntKind.i64.wrap (rd (afterTo q o n) (rdE q.games n).l.toNat + q.draw) = rd (afterTo q o n) (rdE q.games n).l.toNat + q.draw := IntWalk.i64_in _ (by omega)
          refine Seg.region 10 (by kernel_rfl) (by kernel_rfl) (by kernel_rfl) (by kernel_rfl) (Below W2.heap.size W2) (Below.refl _ _).drew ?_
          repeat (first
            | (refine' Seg.pick_or (b := _) (x := _) (c := _) (y := _) rfl rfl rfl rfl ?_; simp only [Act.put, List.setIfInBounds_toArray, List.set_cons_zero, List.set_cons_succ])
            | (refine' Seg.pick_and (b := _) (x := _) (c := _) (y := _) rfl rfl rfl rfl ?_; simp only [Act.put, List.setIfInBounds_toArray, List.set_cons_zero, List.set_cons_succ])
            | (refine' Seg.val (v := _) rfl (fun w' hw => ?_) ?_; rotate_left 1; (obtain ⟨hbc, _⟩ := bcell hw; go_simp; rfl); simp only [Act.put, List.setIfInBounds_toArray, List.set_cons_zero, List.set_cons_succ])
            | (refine' Seg.skip ?_ ?_; (focus (first | (rw [Seg.wanted1 rfl rfl]; simp; done) | (rw [Seg.wanted2 rfl rfl]; simp; done))); simp only [Act.put, List.setIfInBounds_toArray, List.set_cons_zero, List.set_cons_succ])
            | (refine' Seg.pick_or_if (b := _) (x := _) (G := _) (c := _) (y := _) (by first | exact Seg.wanted1 rfl rfl | exact Seg.wanted2 rfl rfl) rfl rfl rfl ?_; simp only [Act.put, List.setIfInBounds_toArray, List.set_cons_zero, List.set_cons_succ])
            | (refine' Seg.pick_and_if (b := _) (x := _) (G := _) (c := _) (y := _) (by first | exact Seg.wanted1 rfl rfl | exact Seg.wanted2 rfl rfl) rfl rfl rfl ?_; simp only [Act.put, List.setIfInBounds_toArray, List.set_cons_zero, List.set_cons_succ])
            | (refine' Seg.val_if (v := _) (G := _) (by first | exact Seg.wanted1 rfl rfl | exact Seg.wanted2 rfl rfl) (fun hb w' hw => ?_) ?_; rotate_left 1; (simp only [Bool.and_eq_true, beq_iff_eq] at hb; obtain ⟨hbc, _⟩ := bcell hw; go_simp; rfl); simp only [Act.put, List.setIfInBounds_toArray, List.set_cons_zero, List.set_cons_succ]))
          intro w6 hw6
          have hP6' := hP2.below hw6
          refine store1 (v := .int .i64 (rd (afterTo q o n) (rdE q.games n).l.toNat + q.draw)) rfl 3 _ _ rfl rfl rfl rfl rfl (by kernel_rfl) (hP6'.int_at hj6) (hP6'.frozen _) ?_
          have hP6S := hP6'.set hj6 (WalkArith.wf_i64 hin6)
          have HB6S := bset (j := (rdE q.games n).l.toNat) (v := .int .i64 (rd (afterTo q o n) (rdE q.games n).l.toNat + q.draw)) (bthen HB2 hw6) hgb
          rw [show (afterTo q o n).set (rdE q.games n).l.toNat (rd (afterTo q o n) (rdE q.games n).l.toNat + q.draw) = bump (afterTo q o n) (rdE q.games n).l q.draw from rfl] at hP6S
          have hlen7 : (bump (afterTo q o n) (rdE q.games n).l q.draw).length = q.points.length := by rw [bump_len, hlen]
          have hbd7 : ∀ i, -99999 ≤ rd (bump (afterTo q o n) (rdE q.games n).l q.draw) i ∧ rd (bump (afterTo q o n) (rdE q.games n).l q.draw) i ≤ 99999 + 999 * n + 999 := by
            intro i
            have := hbd i; have := HG.out.w1; have := HG.out.d0; have := HG.out.d1
            rw [rd_bump]
            split <;> omega
          clear lx cx fx lz cz fz hc5 hc6 hwr6
          obtain ⟨W7, hW7, hs7, hBo⟩ : ∃ W7, w6.setCell ⟨g, (rdE q.games n).l.toNat, none⟩ (.int .i64 (rd (afterTo q o n) (rdE q.games n).l.toNat + q.draw)) = W7 ∧ W7.heap.size = w6.heap.size ∧ (∀ b o, b ≠ g → W7.cell? ⟨b, o, none⟩ = w6.cell? ⟨b, o, none⟩) := ⟨_, rfl, by simp [World.setCell], fun b o hb => World.cell?_setCell_other _ _ _ _ (by intro h; simp only [Addr.mk.injEq] at h; omega)⟩
          rw [hW7] at hP6S HB6S ⊢
          clear hW7
          have hX7 := (X0.below HB6S).cell
          have hS6 : wr.heap.size < w6.heap.size := Nat.lt_of_lt_of_le Z2.lt hw6.size
          have hZ7 : ∀ j, W7.cell? ⟨wr.heap.size, j, none⟩ = _ := fun j => (hBo _ j (fun e => hwb (by rw [e]))).trans ((Z2.below hw6).cell j)
          have hl7 : w.heap.size < W7.heap.size := Nat.lt_of_lt_of_le X0.lt HB6S.size
          have hl8 : wr.heap.size < W7.heap.size := by rw [hs7]; exact Nat.lt_of_lt_of_le Z2.lt hw6.size
          clear hBo hs7
          go_upto_region 7 with (fail)
          have hj7 : (rdE q.games n).r.toNat < (bump (afterTo q o n) (rdE q.games n).l q.draw).length := by rw [hlen7]; omega
          have hc7 := hP6S.int_at hj7
          have hbd7 := hbd7 (rdE q.games n).r.toNat
          have hg7 : g < W7.heap.size := (hP6S.new g rfl).2
          have hin7 : -9223372036854775808 ≤ rd (bump (afterTo q o n) (rdE q.games n).l q.draw) (rdE q.games n).r.toNat + q.draw ∧ rd (bump (afterTo q o n) (rdE q.games n).l q.draw) (rdE q.games n).r.toNat + q.draw ≤ 9223372036854775807 := by have := HG.out.w1; have := HG.out.d0; have := HG.out.d1; omega
          have hwr7 : IntKind.i64.wrap (rd (bump (afterTo q o n) (rdE q.games n).l q.draw) (rdE q.games n).r.toNat + q.draw) = rd (bump (afterTo q o n) (rdE q.games n).l q.draw) (rdE q.games n).r.toNat + q.draw := IntWalk.i64_in _ (by omega)
          refine Seg.region 10 (by kernel_rfl) (by kernel_rfl) (by kernel_rfl) (by kernel_rfl) (Below W7.heap.size W7) (Below.refl _ _).drew ?_
          repeat (first
            | (refine' Seg.pick_or (b := _) (x := _) (c := _) (y := _) rfl rfl rfl rfl ?_; simp only [Act.put, List.setIfInBounds_toArray, List.set_cons_zero, List.set_cons_succ])
            | (refine' Seg.pick_and (b := _) (x := _) (c := _) (y := _) rfl rfl rfl rfl ?_; simp only [Act.put, List.setIfInBounds_toArray, List.set_cons_zero, List.set_cons_succ])
            | (refine' Seg.val (v := _) rfl (fun w' hw => ?_) ?_; rotate_left 1; (obtain ⟨hbc, _⟩ := bcell hw; go_simp; rfl); simp only [Act.put, List.setIfInBounds_toArray, List.set_cons_zero, List.set_cons_succ])
            | (refine' Seg.skip ?_ ?_; (focus (first | (rw [Seg.wanted1 rfl rfl]; simp; done) | (rw [Seg.wanted2 rfl rfl]; simp; done))); simp only [Act.put, List.setIfInBounds_toArray, List.set_cons_zero, List.set_cons_succ])
            | (refine' Seg.pick_or_if (b := _) (x := _) (G := _) (c := _) (y := _) (by first | exact Seg.wanted1 rfl rfl | exact Seg.wanted2 rfl rfl) rfl rfl rfl ?_; simp only [Act.put, List.setIfInBounds_toArray, List.set_cons_zero, List.set_cons_succ])
            | (refine' Seg.pick_and_if (b := _) (x := _) (G := _) (c := _) (y := _) (by first | exact Seg.wanted1 rfl rfl | exact Seg.wanted2 rfl rfl) rfl rfl rfl ?_; simp only [Act.put, List.setIfInBounds_toArray, List.set_cons_zero, List.set_cons_succ])
            | (refine' Seg.val_if (v := _) (G := _) (by first | exact Seg.wanted1 rfl rfl | exact Seg.wanted2 rfl rfl) (fun hb w' hw => ?_) ?_; rotate_left 1; (simp only [Bool.and_eq_true, beq_iff_eq] at hb; obtain ⟨hbc, _⟩ := bcell hw; go_simp; rfl); simp only [Act.put, List.setIfInBounds_toArray, List.set_cons_zero, List.set_cons_succ]))
          intro w7 hw7
          have hP7' := hP6S.below hw7
          refine store1 (v := .int .i64 (rd (bump (afterTo q o n) (rdE q.games n).l q.draw) (rdE q.games n).r.toNat + q.draw)) rfl 3 _ _ rfl rfl rfl rfl rfl (by kernel_rfl) (hP7'.int_at hj7) (hP7'.frozen _) ?_
          have hP7S := hP7'.set hj7 (WalkArith.wf_i64 hin7)
          have HB7S := bset (j := (rdE q.games n).r.toNat) (v := .int .i64 (rd (bump (afterTo q o n) (rdE q.games n).l q.draw) (rdE q.games n).r.toNat + q.draw)) (bthen HB6S hw7) hgb
          have HA : Hid (afterTo q o (n + 1) = (bump (afterTo q o n) (rdE q.games n).l q.draw).set (rdE q.games n).r.toNat (rd (bump (afterTo q o n) (rdE q.games n).l q.draw) (rdE q.games n).r.toNat + q.draw)) := Lib.hid (by rw [afterTo, stepTo, if_neg h1, if_neg h3]; rfl)
          rw [← HA.out] at hP7S
          go_wp2
          go_roundw
          case rel => exact ⟨n + 1, by omega, by go_num, hP7S, HB7S⟩
          case measure => simp [intOf]; omega
    · obtain rfl : n = q.games.length := by omega
      replace hP : OwnI .i64 3 wr W0.heap.size (some ⟨g, 0, none⟩) cap (after q o) := hP
      have hlen : (after q o).length = q.points.length := afterTo_len q o q.games.length
      obtain ⟨lx, cx, fx⟩ := X0.below HB
      have hc9 := hP.int_at (j := q.club.toNat) (by rw [hlen]; omega)
      have HLen := Lib.hid hlen
      clear hlen
      go_wp2
      clear lx cx fx hc9
      go_loopw [4, 5, 82] (fun v4 v5 v82 w3 => ∃ k : Nat, k ≤ q.points.length ∧ v82 = .int .i64 k ∧ v4 = .int .i64 (moreTo q (after q o) k) ∧ v5 = .int .i64 (manyTo q (after q o) k) ∧ w3 = wr) (fun _ _ i _ => q.points.length - (intOf i).toNat)
      case atStart => exact ⟨0, by omega, rfl, rfl, rfl, rfl⟩
      case round =>
        obtain ⟨k, hk, rfl, rfl, rfl, rfl⟩ := hrel
        by_cases hlt : k < q.points.length
        · obtain ⟨lx, cx, fx⟩ := X0.below HB
          have hc8 := hP.int_at (j := k) (by rw [HLen.out]; omega)
          have hm1 := moreTo_bd q (after q o) k
          have hm2 := manyTo_bd q (after q o) k
          by_cases hkc : (k : Int) = q.club
          · have hkc' : ((k : Int) != q.club) = false := by simpa using hkc
            have HK := Lib.hid hkc
            clear hkc
            go_wp2
            go_roundw
            case rel => exact ⟨k + 1, by omega, by go_num, by rw [moreTo, if_neg (fun h => h.1 HK.out), Int.add_zero], by rw [manyTo, if_neg (fun h => h.1 HK.out), Int.add_zero], trivial⟩
            case measure => simp [intOf]; omega
          · have hkc' : ((k : Int) != q.club) = true := by simpa using hkc
            have HK := Lib.hid hkc
            clear hkc
            go_wp2
            all_goals
              go_roundw
              case rel =>
                refine ⟨k + 1, by omega, by go_num, ?_, ?_, trivial⟩
                · first | rw [moreTo, if_pos ⟨HK.out, by omega⟩] | rw [moreTo, if_neg (fun h => by have := h.2; omega), Int.add_zero]
                · first | rw [manyTo, if_pos ⟨HK.out, by omega⟩] | rw [manyTo, if_neg (fun h => by have := h.2; omega), Int.add_zero]
              case measure => simp [intOf]; omega
        · obtain rfl : k = q.points.length := by omega
          go_wp2
          exact bodyPost_ret (results_tmp2 rfl _ _ _) rfl ⟨rfl, bthen hB0 HB⟩
end Go.Proofs.Ytfmekjpmjefpmaa

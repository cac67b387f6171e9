/- ref.Fits, walked. -/
import Derived.Test.YtfmekjpmjefpmaaRa
import Derived.Test.YtfmekjpmjefpmaaWj
set_option linter.unusedSimpArgs false
set_option linter.unusedVariables false
namespace Go.Proofs.Ytfmekjpmjefpmaa
open Go.RowKit

set_option maxHeartbeats 8000000 in
set_option maxRecDepth 100000 in
theorem rfits_any (m : RaceM) (ce : Bool) (k : CutM) (w : World) (hq : RaceIn w m) (hk : CutIn w k) (hg : Good m.q) :
    Calls Try.prog 75 #[m.v, .bool ce, k.v] w fun e w' => e = .returned (.bool (fits m.q ce k.c)) ∧ Below w.heap.size w w' := by
  obtain ⟨q, A2, c2, A3, c3, A4, c4⟩ := m
  obtain ⟨⟨fr, cl, gs⟩, B0, d0, B1, d1, B2, d2⟩ := k
  dsimp only [RaceM.v, CutM.v] at *
  have hp0 := hg.p0
  have hp1 : q.place ≤ 24 := by have := hg.p1; have := hg.n1; omega
  have hd0 := hg.d0
  have hd1 : q.draw ≤ 999 := by have := hg.d1; have := hg.w1; omega
  have hn := hg.n1
  have i0 : 0 ≤ q.club := hg.c0
  have i1 : q.club < q.points.length := by have := hg.pl; have := hg.c1; omega
  have h3 := hq.h3
  dsimp only at h3
  obtain ⟨b, o, rfl, _⟩ := h3.int_at (i := q.club.toNat) (by omega)
  clear h3
  have HG := Lib.hid hg
  clear hg
  go_enter Try.func75, Try.ntmps75
  go_upto_region 1 with (fail)
  obtain ⟨W0, hW0, hB0, X0, Y0⟩ := box2 w #[.int .i64 q.win, .int .i64 q.draw, .slice A2 q.clubs.length c2, .slice (some ⟨b, o, none⟩) q.points.length c3, .slice A4 q.games.length c4, .int .i64 q.club, .int .i64 q.place] #[.slice B0 fr.length d0, .slice B1 cl.length d1, .slice B2 gs.length d2] 25 43
  rw [hW0]
  clear hW0
  have hq0 := hq.below hB0
  have hk0 := hk.below hB0
  obtain ⟨lx, cx, fx⟩ := id X0
  obtain ⟨ly, cy, fy⟩ := id Y0
  have hw2 : IntKind.i64.wrap (2 * q.draw) = 2 * q.draw := IntWalk.i64_in _ (by omega)
  repeat (first | (with_reducible refine Seg.plainB ?_) | go_step)
  repeat (first
    | (refine' Seg.pick_or (b := _) (x := _) (c := _) (y := _) rfl rfl rfl rfl ?_; simp only [Act.put, List.setIfInBounds_toArray, List.set_cons_zero, List.set_cons_succ])
    | (refine' Seg.pick_and (b := _) (x := _) (c := _) (y := _) rfl rfl rfl rfl ?_; simp only [Act.put, List.setIfInBounds_toArray, List.set_cons_zero, List.set_cons_succ])
    | (refine' Seg.val (v := _) rfl (fun w' hw => ?_) ?_; rotate_left 1; (obtain ⟨hbc, _⟩ := bcell hw; go_simp; rfl); simp only [Act.put, List.setIfInBounds_toArray, List.set_cons_zero, List.set_cons_succ])
    | (refine' Seg.skip ?_ ?_; (focus (first | (rw [Seg.wanted1 rfl rfl]; simp; done) | (rw [Seg.wanted2 rfl rfl]; simp; done))); simp only [Act.put, List.setIfInBounds_toArray, List.set_cons_zero, List.set_cons_succ])
    | (refine' Seg.pick_or_if (b := _) (x := _) (G := _) (c := _) (y := _) (by first | exact Seg.wanted1 rfl rfl | exact Seg.wanted2 rfl rfl) rfl rfl rfl ?_; simp only [Act.put, List.setIfInBounds_toArray, List.set_cons_zero, List.set_cons_succ])
    | (refine' Seg.pick_and_if (b := _) (x := _) (G := _) (c := _) (y := _) (by first | exact Seg.wanted1 rfl rfl | exact Seg.wanted2 rfl rfl) rfl rfl rfl ?_; simp only [Act.put, List.setIfInBounds_toArray, List.set_cons_zero, List.set_cons_succ])
    | (refine' Seg.val_if (v := _) (G := _) (by first | exact Seg.wanted1 rfl rfl | exact Seg.wanted2 rfl rfl) (fun hb w' hw => ?_) ?_; rotate_left 1; (simp only [Bool.and_eq_true, beq_iff_eq] at hb; obtain ⟨hbc, _⟩ := bcell hw; go_simp; rfl); simp only [Act.put, List.setIfInBounds_toArray, List.set_cons_zero, List.set_cons_succ]))
  refine' Seg.call_if (v := _) (G := _) (f := _) (args := _) (by first | exact Seg.wanted1 rfl rfl | exact Seg.wanted2 rfl rfl) (fun hb w' => ?_) (fun hb w' hw => callB hw (rset_any ⟨q, A2, c2, some ⟨b, o, none⟩, c3, A4, c4⟩ B0 d0 fr w' (hk0.below hw).h0 hn)) ?_
  · simp only [Bool.and_eq_true, beq_iff_eq] at hb
    go_simp
  simp only [Act.put, List.setIfInBounds_toArray, List.set_cons_zero, List.set_cons_succ]
  repeat (first
    | (refine' Seg.pick_or (b := _) (x := _) (c := _) (y := _) rfl rfl rfl rfl ?_; simp only [Act.put, List.setIfInBounds_toArray, List.set_cons_zero, List.set_cons_succ])
    | (refine' Seg.pick_and (b := _) (x := _) (c := _) (y := _) rfl rfl rfl rfl ?_; simp only [Act.put, List.setIfInBounds_toArray, List.set_cons_zero, List.set_cons_succ])
    | (refine' Seg.val (v := _) rfl (fun w' hw => ?_) ?_; rotate_left 1; (obtain ⟨hbc, _⟩ := bcell hw; go_simp; rfl); simp only [Act.put, List.setIfInBounds_toArray, List.set_cons_zero, List.set_cons_succ])
    | (refine' Seg.skip ?_ ?_; (focus (first | (rw [Seg.wanted1 rfl rfl]; simp; done) | (rw [Seg.wanted2 rfl rfl]; simp; done))); simp only [Act.put, List.setIfInBounds_toArray, List.set_cons_zero, List.set_cons_succ])
    | (refine' Seg.pick_or_if (b := _) (x := _) (G := _) (c := _) (y := _) (by first | exact Seg.wanted1 rfl rfl | exact Seg.wanted2 rfl rfl) rfl rfl rfl ?_; simp only [Act.put, List.setIfInBounds_toArray, List.set_cons_zero, List.set_cons_succ])
    | (refine' Seg.pick_and_if (b := _) (x := _) (G := _) (c := _) (y := _) (by first | exact Seg.wanted1 rfl rfl | exact Seg.wanted2 rfl rfl) rfl rfl rfl ?_; simp only [Act.put, List.setIfInBounds_toArray, List.set_cons_zero, List.set_cons_succ])
    | (refine' Seg.val_if (v := _) (G := _) (by first | exact Seg.wanted1 rfl rfl | exact Seg.wanted2 rfl rfl) (fun hb w' hw => ?_) ?_; rotate_left 1; (simp only [Bool.and_eq_true, beq_iff_eq] at hb; obtain ⟨hbc, _⟩ := bcell hw; go_simp; rfl); simp only [Act.put, List.setIfInBounds_toArray, List.set_cons_zero, List.set_cons_succ]))
  refine' Seg.call_if (v := _) (G := _) (f := _) (args := _) (by first | exact Seg.wanted1 rfl rfl | exact Seg.wanted2 rfl rfl) (fun hb w' => ?_) (fun hb w' hw => callB hw (rset_any ⟨q, A2, c2, some ⟨b, o, none⟩, c3, A4, c4⟩ B1 d1 cl w' (hk0.below hw).h1 hn)) ?_
  · simp only [Bool.and_eq_true, beq_iff_eq] at hb
    go_simp
  simp only [Act.put, List.setIfInBounds_toArray, List.set_cons_zero, List.set_cons_succ]
  repeat (first
    | (refine' Seg.pick_or (b := _) (x := _) (c := _) (y := _) rfl rfl rfl rfl ?_; simp only [Act.put, List.setIfInBounds_toArray, List.set_cons_zero, List.set_cons_succ])
    | (refine' Seg.pick_and (b := _) (x := _) (c := _) (y := _) rfl rfl rfl rfl ?_; simp only [Act.put, List.setIfInBounds_toArray, List.set_cons_zero, List.set_cons_succ])
    | (refine' Seg.val (v := _) rfl (fun w' hw => ?_) ?_; rotate_left 1; (obtain ⟨hbc, _⟩ := bcell hw; go_simp; rfl); simp only [Act.put, List.setIfInBounds_toArray, List.set_cons_zero, List.set_cons_succ])
    | (refine' Seg.skip ?_ ?_; (focus (first | (rw [Seg.wanted1 rfl rfl]; simp; done) | (rw [Seg.wanted2 rfl rfl]; simp; done))); simp only [Act.put, List.setIfInBounds_toArray, List.set_cons_zero, List.set_cons_succ])
    | (refine' Seg.pick_or_if (b := _) (x := _) (G := _) (c := _) (y := _) (by first | exact Seg.wanted1 rfl rfl | exact Seg.wanted2 rfl rfl) rfl rfl rfl ?_; simp only [Act.put, List.setIfInBounds_toArray, List.set_cons_zero, List.set_cons_succ])
    | (refine' Seg.pick_and_if (b := _) (x := _) (G := _) (c := _) (y := _) (by first | exact Seg.wanted1 rfl rfl | exact Seg.wanted2 rfl rfl) rfl rfl rfl ?_; simp only [Act.put, List.setIfInBounds_toArray, List.set_cons_zero, List.set_cons_succ])
    | (refine' Seg.val_if (v := _) (G := _) (by first | exact Seg.wanted1 rfl rfl | exact Seg.wanted2 rfl rfl) (fun hb w' hw => ?_) ?_; rotate_left 1; (simp only [Bool.and_eq_true, beq_iff_eq] at hb; obtain ⟨hbc, _⟩ := bcell hw; go_simp; rfl); simp only [Act.put, List.setIfInBounds_toArray, List.set_cons_zero, List.set_cons_succ]))
  refine Seg.doneB (fun w1 hw1 => ?_)
  have hB1 := bthen hB0 hw1
  clear lx cx fx ly cy fy
  repeat ((conv in Seg.opt _ _ => skip); generalize Seg.opt _ _ = u)
  generalize hcd : (_ || ((cl.length : Int) == 0)) = cd
  have HC : Hid (cd = false ↔ halves q = true ∧ isSet q fr = true ∧ isSet q cl = true ∧ cl.length ≠ 0) := by
    show _ ↔ _
    rw [← hcd]
    simp only [Bool.or_eq_false_iff, Bool.not_eq_false', halves, Bool.and_eq_true, decide_eq_true_eq, beq_eq_false_iff_ne, beq_iff_eq, bne_eq_false_iff_eq]
    constructor
    · rintro ⟨⟨⟨⟨h1, h2⟩, h3⟩, h4⟩, h5⟩; exact ⟨⟨by omega, h2⟩, h3, h4, by omega⟩
    · rintro ⟨⟨h1, h2⟩, h3, h4, h5⟩; exact ⟨⟨⟨⟨by omega, h2⟩, h3⟩, h4⟩, by omega⟩
  clear hcd
  cases cd
  · obtain ⟨C1, C2, C3, C4⟩ := HC.out.1 rfl
    clear HC
    have HC := Lib.hid (And.intro C1 (And.intro C2 (And.intro C3 C4)))
    have hset : Hid (SetP q.clubs.length q.club cl cl.length) := Lib.hid (of_decide_eq_true C3)
    clear C1 C2 C3
    obtain ⟨b1, o1, e1, _⟩ := hk0.h1.int_at (i := 0) (by dsimp only; omega)
    dsimp only at e1
    subst e1
    obtain ⟨lx, cx, fx⟩ := X0.below hw1
    obtain ⟨ly, cy, fy⟩ := Y0.below hw1
    cases ce
    · by_cases hfr : (fr.length : Int) = q.place - 1
      · have hfr1 : ((fr.length : Int) != q.place - 1) = false := by simpa using hfr
        have C5 : Hid ((fr.length : Int) = size q false) := Lib.hid (by rw [hfr]; rfl)
        clear hfr
        go_wp2_with (go_at_call 92; refine (rbounds_any ⟨q, A2, c2, some ⟨b, o, none⟩, c3, A4, c4⟩ _ (hq0.below hw1) HG.out).mono ?_; rintro e w' ⟨rfl, hb2⟩)
        clear lx cx fx ly cy fy
        have hw2' := bthen hw1 hb2
        have hhigh := highTo_bd HG.out q.games.length (Nat.le_refl _)
        have hcl : cl.length ≤ 24 := by have := hset.out.len; omega
        have hg1 := HG.out.g1
        have hpl := Lib.hid HG.out.pl
        have hdp : 0 < q.draw := by have := HC.out.1; simp only [halves, Bool.and_eq_true, decide_eq_true_eq] at this; exact this.1
        have hlow := HG.out.pt q.club.toNat (by have := HG.out.c1; omega)
        go_loopw [10, 11] (fun v10 v11 wp => ∃ n : Nat, n ≤ cl.length ∧ v11 = .int .i64 n ∧ v10 = .int .i64 (-sumTo q false (highTo q q.games.length) cl n) ∧ Hid (∀ i, i < n → decide (rd cl i ∈ fr) = false) ∧ Below W0.heap.size W0 wp) (fun _ i _ => cl.length - (intOf i).toNat)
        case atStart => exact ⟨0, by omega, rfl, rfl, fun i hi => by omega, hw2'⟩
        case round =>
          obtain ⟨n, hn, rfl, rfl, HF, HB⟩ := hrel
          have HB' := bthen hB0 HB
          obtain ⟨lx, cx, fx⟩ := X0.below HB
          obtain ⟨ly, cy, fy⟩ := Y0.below HB
          by_cases hlt : n < cl.length
          · obtain ⟨b6, o6, e6, hb6, hc6, _⟩ := (hk0.below HB).h1.int_at hlt
            cases e6
            obtain ⟨x0, x1, x2, _⟩ := hset.out n hlt
            obtain ⟨b7, o7, e7, hb7, hc7, _⟩ := (hq0.below HB).h3.int_at (i := (rd cl n).toNat) (by have := hpl.out; dsimp only; omega)
            cases e7
            dsimp only at hc6 hc7
            have hpx := HG.out.pt (rd cl n).toNat (by omega)
            have x3 : rd cl n < q.points.length := by have := hpl.out; omega
            have hsum := sumTo_bd HG.out false (highTo q q.games.length) cl hhigh.1 (by omega) hdp hset.out n (by omega)
            have hterm := term_bd HG.out false (highTo q q.games.length) (rd cl n) hhigh.1 (by omega) hdp x0 x1
            have s1 : -32000000 ≤ sumTo q false (highTo q q.games.length) cl n := by omega
            have s2 : sumTo q false (highTo q q.games.length) cl n ≤ 32000000 := by omega
            go_upto_region 13 with (fail)
            refine Seg.regionB (by kernel_rfl) (by kernel_rfl) ?_
            repeat (first
              | (refine' Seg.pick_or (b := _) (x := _) (c := _) (y := _) rfl rfl rfl rfl ?_; simp only [Act.put, List.setIfInBounds_toArray, List.set_cons_zero, List.set_cons_succ])
              | (refine' Seg.pick_and (b := _) (x := _) (c := _) (y := _) rfl rfl rfl rfl ?_; simp only [Act.put, List.setIfInBounds_toArray, List.set_cons_zero, List.set_cons_succ])
              | (refine' Seg.val (v := _) rfl (fun w' hw => ?_) ?_; rotate_left 1; (obtain ⟨hbc, _⟩ := bcell hw; go_simp; rfl); simp only [Act.put, List.setIfInBounds_toArray, List.set_cons_zero, List.set_cons_succ])
              | (refine' Seg.skip ?_ ?_; (focus (first | (rw [Seg.wanted1 rfl rfl]; simp; done) | (rw [Seg.wanted2 rfl rfl]; simp; done))); simp only [Act.put, List.setIfInBounds_toArray, List.set_cons_zero, List.set_cons_succ])
              | (refine' Seg.pick_or_if (b := _) (x := _) (G := _) (c := _) (y := _) (by first | exact Seg.wanted1 rfl rfl | exact Seg.wanted2 rfl rfl) rfl rfl rfl ?_; simp only [Act.put, List.setIfInBounds_toArray, List.set_cons_zero, List.set_cons_succ])
              | (refine' Seg.pick_and_if (b := _) (x := _) (G := _) (c := _) (y := _) (by first | exact Seg.wanted1 rfl rfl | exact Seg.wanted2 rfl rfl) rfl rfl rfl ?_; simp only [Act.put, List.setIfInBounds_toArray, List.set_cons_zero, List.set_cons_succ])
              | (refine' Seg.val_if (v := _) (G := _) (by first | exact Seg.wanted1 rfl rfl | exact Seg.wanted2 rfl rfl) (fun hb w' hw => ?_) ?_; rotate_left 1; (simp only [Bool.and_eq_true, beq_iff_eq] at hb; obtain ⟨hbc, _⟩ := bcell hw; go_simp; rfl); simp only [Act.put, List.setIfInBounds_toArray, List.set_cons_zero, List.set_cons_succ]))
            refine' Seg.call (v := _) (f := _) (args := _) rfl (fun w' => ?_) (fun w' hw => callB hw (rmember_any B0 d0 fr (rd cl n) w' ((hk0.below HB).below hw).h0)) ?_
            · go_simp
            simp only [Act.put, List.setIfInBounds_toArray, List.set_cons_zero, List.set_cons_succ]
            repeat (first
              | (refine' Seg.pick_or (b := _) (x := _) (c := _) (y := _) rfl rfl rfl rfl ?_; simp only [Act.put, List.setIfInBounds_toArray, List.set_cons_zero, List.set_cons_succ])
              | (refine' Seg.pick_and (b := _) (x := _) (c := _) (y := _) rfl rfl rfl rfl ?_; simp only [Act.put, List.setIfInBounds_toArray, List.set_cons_zero, List.set_cons_succ])
              | (refine' Seg.val (v := _) rfl (fun w' hw => ?_) ?_; rotate_left 1; (obtain ⟨hbc, _⟩ := bcell hw; go_simp; rfl); simp only [Act.put, List.setIfInBounds_toArray, List.set_cons_zero, List.set_cons_succ])
              | (refine' Seg.skip ?_ ?_; (focus (first | (rw [Seg.wanted1 rfl rfl]; simp; done) | (rw [Seg.wanted2 rfl rfl]; simp; done))); simp only [Act.put, List.setIfInBounds_toArray, List.set_cons_zero, List.set_cons_succ])
              | (refine' Seg.pick_or_if (b := _) (x := _) (G := _) (c := _) (y := _) (by first | exact Seg.wanted1 rfl rfl | exact Seg.wanted2 rfl rfl) rfl rfl rfl ?_; simp only [Act.put, List.setIfInBounds_toArray, List.set_cons_zero, List.set_cons_succ])
              | (refine' Seg.pick_and_if (b := _) (x := _) (G := _) (c := _) (y := _) (by first | exact Seg.wanted1 rfl rfl | exact Seg.wanted2 rfl rfl) rfl rfl rfl ?_; simp only [Act.put, List.setIfInBounds_toArray, List.set_cons_zero, List.set_cons_succ])
              | (refine' Seg.val_if (v := _) (G := _) (by first | exact Seg.wanted1 rfl rfl | exact Seg.wanted2 rfl rfl) (fun hb w' hw => ?_) ?_; rotate_left 1; (simp only [Bool.and_eq_true, beq_iff_eq] at hb; obtain ⟨hbc, _⟩ := bcell hw; go_simp; rfl); simp only [Act.put, List.setIfInBounds_toArray, List.set_cons_zero, List.set_cons_succ]))
            intro w3 hw3
            have HB3 := bthen HB hw3
            clear lx cx fx ly cy fy hc6 hc7 hb6 hb7
            obtain ⟨lx, cx, fx⟩ := X0.below HB3
            obtain ⟨ly, cy, fy⟩ := Y0.below HB3
            cases hmem : decide (rd cl n ∈ fr)
            · have HF1 : Hid (∀ i, i < n + 1 → decide (rd cl i ∈ fr) = false) := fun i hi => by
                rcases Nat.lt_or_ge i n with h' | h'
                · exact HF.out i h'
                · obtain rfl : i = n := by omega
                  exact hmem
              clear hmem
              obtain ⟨b6, o6, e6, hb6, hc6, _⟩ := (hk0.below HB3).h1.int_at hlt
              cases e6
              obtain ⟨b7, o7, e7, hb7, hc7, _⟩ := (hq0.below HB3).h3.int_at (i := (rd cl n).toNat) (by have := hpl.out; dsimp only; omega)
              cases e7
              dsimp only at hc6 hc7
              go_upto_region 15 with (fail)
              refine Seg.regionB (by kernel_rfl) (by kernel_rfl) ?_
              repeat (first
                | (refine' Seg.pick_or (b := _) (x := _) (c := _) (y := _) rfl rfl rfl rfl ?_; simp only [Act.put, List.setIfInBounds_toArray, List.set_cons_zero, List.set_cons_succ])
                | (refine' Seg.pick_and (b := _) (x := _) (c := _) (y := _) rfl rfl rfl rfl ?_; simp only [Act.put, List.setIfInBounds_toArray, List.set_cons_zero, List.set_cons_succ])
                | (refine' Seg.val (v := _) rfl (fun w' hw => ?_) ?_; rotate_left 1; (obtain ⟨hbc, _⟩ := bcell hw; go_simp; rfl); simp only [Act.put, List.setIfInBounds_toArray, List.set_cons_zero, List.set_cons_succ])
                | (refine' Seg.skip ?_ ?_; (focus (first | (rw [Seg.wanted1 rfl rfl]; simp; done) | (rw [Seg.wanted2 rfl rfl]; simp; done))); simp only [Act.put, List.setIfInBounds_toArray, List.set_cons_zero, List.set_cons_succ])
                | (refine' Seg.pick_or_if (b := _) (x := _) (G := _) (c := _) (y := _) (by first | exact Seg.wanted1 rfl rfl | exact Seg.wanted2 rfl rfl) rfl rfl rfl ?_; simp only [Act.put, List.setIfInBounds_toArray, List.set_cons_zero, List.set_cons_succ])
                | (refine' Seg.pick_and_if (b := _) (x := _) (G := _) (c := _) (y := _) (by first | exact Seg.wanted1 rfl rfl | exact Seg.wanted2 rfl rfl) rfl rfl rfl ?_; simp only [Act.put, List.setIfInBounds_toArray, List.set_cons_zero, List.set_cons_succ])
                | (refine' Seg.val_if (v := _) (G := _) (by first | exact Seg.wanted1 rfl rfl | exact Seg.wanted2 rfl rfl) (fun hb w' hw => ?_) ?_; rotate_left 1; (simp only [Bool.and_eq_true, beq_iff_eq] at hb; obtain ⟨hbc, _⟩ := bcell hw; go_simp; rfl); simp only [Act.put, List.setIfInBounds_toArray, List.set_cons_zero, List.set_cons_succ]))
              intro w5 hw5
              have HB5 := bthen HB3 hw5
              clear lx cx fx ly cy fy hc6 hc7 hb6 hb7
              obtain ⟨lx, cx, fx⟩ := X0.below HB5
              have f1 := floors HG.out (highTo q q.games.length - rd q.points (rd cl n).toNat) (by omega) (by omega) hdp
              have e1 : IntKind.i64.wrap (highTo q q.games.length - rd q.points (rd cl n).toNat) = highTo q q.games.length - rd q.points (rd cl n).toNat := IntWalk.i64_in _ (by omega)
              have HT : Hid (-sumTo q false (highTo q q.games.length) cl n + floorI (highTo q q.games.length - rd q.points (rd cl n).toNat) q.draw = -sumTo q false (highTo q q.games.length) cl (n + 1)) := Lib.hid (by simp only [sumTo, term, Bool.false_eq_true, if_false]; omega)
              have e2 : IntKind.i64.wrap (-sumTo q false (highTo q q.games.length) cl n + floorI (highTo q q.games.length - rd q.points (rd cl n).toNat) q.draw) = -sumTo q false (highTo q q.games.length) cl n + floorI (highTo q q.games.length - rd q.points (rd cl n).toNat) q.draw := IntWalk.i64_in _ (by omega)
              have hfl := fun w' => rfloor_any (highTo q q.games.length - rd q.points (rd cl n).toNat) q.draw w' (by omega) (by omega) hdp hd1
              replace hfl := Lib.hid hfl
              go_wp2_with (go_at_call 94; refine (hfl.out _).mono ?_; rintro e w' ⟨rfl, rfl⟩)
              go_roundw
              case rel => exact ⟨n + 1, by omega, by go_num, by rw [← HT.out], HF1, HB5⟩
              case measure => simp [intOf]; omega
            · go_wp2
              go_ret
              exact ⟨ret_bool (fits_not hlt hmem).symm, bthen hB0 HB3⟩
          · obtain rfl : n = cl.length := by omega
            have hsum := sumTo_bd HG.out false (highTo q q.games.length) cl hhigh.1 (by omega) hdp hset.out cl.length (by omega)
            go_wp2
            clear lx cx fx ly cy fy
            have HBa := bthen HB (balloc0 _ (.cells #[] 3))
            go_loopw [13, 14] (fun v13 v14 wp => ∃ (n : Nat) (A : Option Addr) (c : Nat), n ≤ q.games.length ∧ v14 = .int .i64 n ∧ v13 = .slice A (gamesTo q false cl n).length c ∧ OwnI .i64 3 wp W0.heap.size A c (gamesTo q false cl n) ∧ Below W0.heap.size W0 wp) (fun _ i _ => q.games.length - (intOf i).toNat)
            case atStart => exact ⟨0, _, 0, by omega, rfl, rfl, OwnI.made .i64 3 _ HB.size, HBa⟩
            case round =>
              obtain ⟨n, A, c, hn, rfl, rfl, hO, HB⟩ := hrel
              have HB' := bthen hB0 HB
              obtain ⟨lx, cx, fx⟩ := X0.below HB
              obtain ⟨ly, cy, fy⟩ := Y0.below HB
              by_cases hlt : n < q.games.length
              · obtain ⟨b4, o4, e4, hb4, hel, her, wl, wr'⟩ := (hq0.below HB).h4.edge_at hlt
                dsimp only at e4
                subst e4
                go_upto_region 23 with (fail)
                refine Seg.regionB (by kernel_rfl) (by kernel_rfl) ?_
                repeat (first
                  | (refine' Seg.pick_or (b := _) (x := _) (c := _) (y := _) rfl rfl rfl rfl ?_; simp only [Act.put, List.setIfInBounds_toArray, List.set_cons_zero, List.set_cons_succ])
                  | (refine' Seg.pick_and (b := _) (x := _) (c := _) (y := _) rfl rfl rfl rfl ?_; simp only [Act.put, List.setIfInBounds_toArray, List.set_cons_zero, List.set_cons_succ])
                  | (refine' Seg.val (v := _) rfl (fun w' hw => ?_) ?_; rotate_left 1; (obtain ⟨hbc, _⟩ := bcell hw; go_simp; rfl); simp only [Act.put, List.setIfInBounds_toArray, List.set_cons_zero, List.set_cons_succ])
                  | (refine' Seg.skip ?_ ?_; (focus (first | (rw [Seg.wanted1 rfl rfl]; simp; done) | (rw [Seg.wanted2 rfl rfl]; simp; done))); simp only [Act.put, List.setIfInBounds_toArray, List.set_cons_zero, List.set_cons_succ])
                  | (refine' Seg.pick_or_if (b := _) (x := _) (G := _) (c := _) (y := _) (by first | exact Seg.wanted1 rfl rfl | exact Seg.wanted2 rfl rfl) rfl rfl rfl ?_; simp only [Act.put, List.setIfInBounds_toArray, List.set_cons_zero, List.set_cons_succ])
                  | (refine' Seg.pick_and_if (b := _) (x := _) (G := _) (c := _) (y := _) (by first | exact Seg.wanted1 rfl rfl | exact Seg.wanted2 rfl rfl) rfl rfl rfl ?_; simp only [Act.put, List.setIfInBounds_toArray, List.set_cons_zero, List.set_cons_succ])
                  | (refine' Seg.val_if (v := _) (G := _) (by first | exact Seg.wanted1 rfl rfl | exact Seg.wanted2 rfl rfl) (fun hb w' hw => ?_) ?_; rotate_left 1; (simp only [Bool.and_eq_true, beq_iff_eq] at hb; obtain ⟨hbc, _⟩ := bcell hw; go_simp; rfl); simp only [Act.put, List.setIfInBounds_toArray, List.set_cons_zero, List.set_cons_succ]))
                refine' Seg.call (v := _) (f := _) (args := _) rfl (fun w' => ?_) (fun w' hw => callB hw (rmember_any (some ⟨b1, o1, none⟩) d1 cl (rdE q.games n).l w' ((hk0.below HB).below hw).h1)) ?_
                · go_simp
                simp only [Act.put, List.setIfInBounds_toArray, List.set_cons_zero, List.set_cons_succ]
                repeat (first
                  | (refine' Seg.pick_or (b := _) (x := _) (c := _) (y := _) rfl rfl rfl rfl ?_; simp only [Act.put, List.setIfInBounds_toArray, List.set_cons_zero, List.set_cons_succ])
                  | (refine' Seg.pick_and (b := _) (x := _) (c := _) (y := _) rfl rfl rfl rfl ?_; simp only [Act.put, List.setIfInBounds_toArray, List.set_cons_zero, List.set_cons_succ])
                  | (refine' Seg.val (v := _) rfl (fun w' hw => ?_) ?_; rotate_left 1; (obtain ⟨hbc, _⟩ := bcell hw; go_simp; rfl); simp only [Act.put, List.setIfInBounds_toArray, List.set_cons_zero, List.set_cons_succ])
                  | (refine' Seg.skip ?_ ?_; (focus (first | (rw [Seg.wanted1 rfl rfl]; simp; done) | (rw [Seg.wanted2 rfl rfl]; simp; done))); simp only [Act.put, List.setIfInBounds_toArray, List.set_cons_zero, List.set_cons_succ])
                  | (refine' Seg.pick_or_if (b := _) (x := _) (G := _) (c := _) (y := _) (by first | exact Seg.wanted1 rfl rfl | exact Seg.wanted2 rfl rfl) rfl rfl rfl ?_; simp only [Act.put, List.setIfInBounds_toArray, List.set_cons_zero, List.set_cons_succ])
                  | (refine' Seg.pick_and_if (b := _) (x := _) (G := _) (c := _) (y := _) (by first | exact Seg.wanted1 rfl rfl | exact Seg.wanted2 rfl rfl) rfl rfl rfl ?_; simp only [Act.put, List.setIfInBounds_toArray, List.set_cons_zero, List.set_cons_succ])
                  | (refine' Seg.val_if (v := _) (G := _) (by first | exact Seg.wanted1 rfl rfl | exact Seg.wanted2 rfl rfl) (fun hb w' hw => ?_) ?_; rotate_left 1; (simp only [Bool.and_eq_true, beq_iff_eq] at hb; obtain ⟨hbc, _⟩ := bcell hw; go_simp; rfl); simp only [Act.put, List.setIfInBounds_toArray, List.set_cons_zero, List.set_cons_succ]))
                intro w3 hw3
                clear lx cx fx ly cy fy hb4 hel her
                have HB3 := bthen HB hw3
                obtain ⟨lx, cx, fx⟩ := X0.below HB3
                obtain ⟨ly, cy, fy⟩ := Y0.below HB3
                obtain ⟨b4, o4, e4, hb4, hel, her, wl, wr'⟩ := (hq0.below HB3).h4.edge_at hlt
                dsimp only at e4
                cases e4
                go_upto_region 24 with (fail)
                refine Seg.regionB (by kernel_rfl) (by kernel_rfl) ?_
                repeat (first
                  | (refine' Seg.pick_or (b := _) (x := _) (c := _) (y := _) rfl rfl rfl rfl ?_; simp only [Act.put, List.setIfInBounds_toArray, List.set_cons_zero, List.set_cons_succ])
                  | (refine' Seg.pick_and (b := _) (x := _) (c := _) (y := _) rfl rfl rfl rfl ?_; simp only [Act.put, List.setIfInBounds_toArray, List.set_cons_zero, List.set_cons_succ])
                  | (refine' Seg.val (v := _) rfl (fun w' hw => ?_) ?_; rotate_left 1; (obtain ⟨hbc, _⟩ := bcell hw; go_simp; rfl); simp only [Act.put, List.setIfInBounds_toArray, List.set_cons_zero, List.set_cons_succ])
                  | (refine' Seg.skip ?_ ?_; (focus (first | (rw [Seg.wanted1 rfl rfl]; simp; done) | (rw [Seg.wanted2 rfl rfl]; simp; done))); simp only [Act.put, List.setIfInBounds_toArray, List.set_cons_zero, List.set_cons_succ])
                  | (refine' Seg.pick_or_if (b := _) (x := _) (G := _) (c := _) (y := _) (by first | exact Seg.wanted1 rfl rfl | exact Seg.wanted2 rfl rfl) rfl rfl rfl ?_; simp only [Act.put, List.setIfInBounds_toArray, List.set_cons_zero, List.set_cons_succ])
                  | (refine' Seg.pick_and_if (b := _) (x := _) (G := _) (c := _) (y := _) (by first | exact Seg.wanted1 rfl rfl | exact Seg.wanted2 rfl rfl) rfl rfl rfl ?_; simp only [Act.put, List.setIfInBounds_toArray, List.set_cons_zero, List.set_cons_succ])
                  | (refine' Seg.val_if (v := _) (G := _) (by first | exact Seg.wanted1 rfl rfl | exact Seg.wanted2 rfl rfl) (fun hb w' hw => ?_) ?_; rotate_left 1; (simp only [Bool.and_eq_true, beq_iff_eq] at hb; obtain ⟨hbc, _⟩ := bcell hw; go_simp; rfl); simp only [Act.put, List.setIfInBounds_toArray, List.set_cons_zero, List.set_cons_succ]))
                refine' Seg.call (v := _) (f := _) (args := _) rfl (fun w' => ?_) (fun w' hw => callB hw (rmember_any (some ⟨b1, o1, none⟩) d1 cl (rdE q.games n).r w' ((hk0.below HB3).below hw).h1)) ?_
                · go_simp
                simp only [Act.put, List.setIfInBounds_toArray, List.set_cons_zero, List.set_cons_succ]
                repeat (first
                  | (refine' Seg.pick_or (b := _) (x := _) (c := _) (y := _) rfl rfl rfl rfl ?_; simp only [Act.put, List.setIfInBounds_toArray, List.set_cons_zero, List.set_cons_succ])
                  | (refine' Seg.pick_and (b := _) (x := _) (c := _) (y := _) rfl rfl rfl rfl ?_; simp only [Act.put, List.setIfInBounds_toArray, List.set_cons_zero, List.set_cons_succ])
                  | (refine' Seg.val (v := _) rfl (fun w' hw => ?_) ?_; rotate_left 1; (obtain ⟨hbc, _⟩ := bcell hw; go_simp; rfl); simp only [Act.put, List.setIfInBounds_toArray, List.set_cons_zero, List.set_cons_succ])
                  | (refine' Seg.skip ?_ ?_; (focus (first | (rw [Seg.wanted1 rfl rfl]; simp; done) | (rw [Seg.wanted2 rfl rfl]; simp; done))); simp only [Act.put, List.setIfInBounds_toArray, List.set_cons_zero, List.set_cons_succ])
                  | (refine' Seg.pick_or_if (b := _) (x := _) (G := _) (c := _) (y := _) (by first | exact Seg.wanted1 rfl rfl | exact Seg.wanted2 rfl rfl) rfl rfl rfl ?_; simp only [Act.put, List.setIfInBounds_toArray, List.set_cons_zero, List.set_cons_succ])
                  | (refine' Seg.pick_and_if (b := _) (x := _) (G := _) (c := _) (y := _) (by first | exact Seg.wanted1 rfl rfl | exact Seg.wanted2 rfl rfl) rfl rfl rfl ?_; simp only [Act.put, List.setIfInBounds_toArray, List.set_cons_zero, List.set_cons_succ])
                  | (refine' Seg.val_if (v := _) (G := _) (by first | exact Seg.wanted1 rfl rfl | exact Seg.wanted2 rfl rfl) (fun hb w' hw => ?_) ?_; rotate_left 1; (simp only [Bool.and_eq_true, beq_iff_eq] at hb; obtain ⟨hbc, _⟩ := bcell hw; go_simp; rfl); simp only [Act.put, List.setIfInBounds_toArray, List.set_cons_zero, List.set_cons_succ]))
                intro w5 hw5
                clear lx cx fx ly cy fy hb4 hel her
                have HB5 := bthen HB3 hw5
                have hO5 := (hO.below hw3).below hw5
                have hgl := gamesTo_le q false cl n
                have hS5 : W0.heap.size ≤ w5.heap.size := HB5.size
                have hSel : ∀ bl br, decide ((rdE q.games n).l ∈ cl) = bl → decide ((rdE q.games n).r ∈ cl) = br → sel false cl (rdE q.games n) = ((bl && br) || (false && (bl || br))) := fun bl br h1 h2 => by rw [← h1, ← h2]; rfl
                cases hL : decide ((rdE q.games n).l ∈ cl) <;> cases hR : decide ((rdE q.games n).r ∈ cl)
                · have hs : Hid (sel false cl (rdE q.games n) = false) := Lib.hid (hSel _ _ hL hR)
                  clear hL hR hSel
                  go_wp2
                  go_roundw
                  case rel => exact ⟨n + 1, A, c, by omega, by go_num, by simp [gamesTo, hs.out], by simp only [gamesTo, hs.out]; simpa using hO5, HB5⟩
                  case measure => simp [intOf]; omega
                · have hs : Hid (sel false cl (rdE q.games n) = false) := Lib.hid (hSel _ _ hL hR)
                  clear hL hR hSel
                  go_wp2
                  go_roundw
                  case rel => exact ⟨n + 1, A, c, by omega, by go_num, by simp [gamesTo, hs.out], by simp only [gamesTo, hs.out]; simpa using hO5, HB5⟩
                  case measure => simp [intOf]; omega
                · have hs : Hid (sel false cl (rdE q.games n) = false) := Lib.hid (hSel _ _ hL hR)
                  clear hL hR hSel
                  go_wp2
                  go_roundw
                  case rel => exact ⟨n + 1, A, c, by omega, by go_num, by simp [gamesTo, hs.out], by simp only [gamesTo, hs.out]; simpa using hO5, HB5⟩
                  case measure => simp [intOf]; omega
                · have hs : Hid (sel false cl (rdE q.games n) = true) := Lib.hid (hSel _ _ hL hR)
                  clear hL hR hSel
                  go_wp2_with (at_builtin; refine append1 rfl _ _ 22 rfl Try.underlying22 infoI rfl (hO5.alloc _) ⟨w5.heap.size, 0, none⟩ n rfl (by simp [go_sem]) (WalkArith.wf_i64 (by omega)) (by omega) (by simp; omega) ?_; intro g c' w6 hO6 hg6 hn6 hl6)
                  go_roundw
                  case rel => exact ⟨n + 1, some ⟨g, 0, none⟩, c', by omega, by go_num, by simp [gamesTo, hs.out], by simpa only [gamesTo, hs.out, if_true] using hO6, below_append (balloc HB5 _) (hO5.alloc _) hg6 (by simp; omega)⟩
                  case measure => simp [intOf]; omega
              · obtain rfl : n = q.games.length := by omega
                have hgl := gamesTo_le q false cl q.games.length
                obtain ⟨_, hO2⟩ := And.intro hO.len hO.row
                obtain ⟨C1, C2, C3, C4⟩ := HC.out
                have HR := Lib.hid (fits_rest (gs := gs) C1 C2 C3 C4 C5.out HF.out)
                clear C1 C2 C3 C4
                cases heq : decide (gamesTo q false cl q.games.length = gs)
                all_goals
                  have HQ := Lib.hid heq
                  clear heq
                  have hsame := rsame_any A c (gamesTo q false cl q.games.length) B2 d2 gs _ hO2 (hk0.below HB).h2
                  rw [HQ.out] at hsame
                  replace hsame := Lib.hid hsame
                  go_wp2_with (go_at_call 74; refine hsame.out.mono ?_; rintro e w' ⟨rfl, hb9⟩)
                  go_ret
                  refine ⟨ret_bool ?_, bthen HB' hb9⟩
                  rw [HR.out, HQ.out]
                  first
                    | rfl
                    | (simp only [Bool.true_and]
                       exact decide_eq_decide.2 (by simp only [Bool.false_eq_true, if_false]; omega))
      · have hfr1 : ((fr.length : Int) != q.place - 1) = true := by simpa using hfr
        have C5 : Hid ((fr.length : Int) ≠ size q false) := Lib.hid (fun h => hfr (by rw [h]; rfl))
        clear hfr
        go_wp2
        go_ret
        refine ⟨ret_bool (Eq.symm ?_), hB1⟩
        have h5 : decide ((fr.length : Int) = size q false) = false := decide_eq_false C5.out
        rw [fits]
        dsimp only
        rw [h5]
        simp
    · by_cases hfr : (fr.length : Int) = q.place
      · have hfr1 : ((fr.length : Int) != q.place) = false := by simpa using hfr
        have C5 : Hid ((fr.length : Int) = size q true) := Lib.hid (by rw [hfr]; rfl)
        clear hfr
        go_wp2_with (go_at_call 92; refine (rbounds_any ⟨q, A2, c2, some ⟨b, o, none⟩, c3, A4, c4⟩ _ (hq0.below hw1) HG.out).mono ?_; rintro e w' ⟨rfl, hb2⟩)
        clear lx cx fx ly cy fy
        have hw2' := bthen hw1 hb2
        have hhigh := highTo_bd HG.out q.games.length (Nat.le_refl _)
        have hcl : cl.length ≤ 24 := by have := hset.out.len; omega
        have hg1 := HG.out.g1
        have hpl := Lib.hid HG.out.pl
        have hdp : 0 < q.draw := by have := HC.out.1; simp only [halves, Bool.and_eq_true, decide_eq_true_eq] at this; exact this.1
        have hlow := HG.out.pt q.club.toNat (by have := HG.out.c1; omega)
        go_loopw [10, 11] (fun v10 v11 wp => ∃ n : Nat, n ≤ cl.length ∧ v11 = .int .i64 n ∧ v10 = .int .i64 (sumTo q true (highTo q q.games.length) cl n) ∧ Hid (∀ i, i < n → decide (rd cl i ∈ fr) = true) ∧ Below W0.heap.size W0 wp) (fun _ i _ => cl.length - (intOf i).toNat)
        case atStart => exact ⟨0, by omega, rfl, rfl, fun i hi => by omega, hw2'⟩
        case round =>
          obtain ⟨n, hn, rfl, rfl, HF, HB⟩ := hrel
          have HB' := bthen hB0 HB
          obtain ⟨lx, cx, fx⟩ := X0.below HB
          obtain ⟨ly, cy, fy⟩ := Y0.below HB
          by_cases hlt : n < cl.length
          · obtain ⟨b6, o6, e6, hb6, hc6, _⟩ := (hk0.below HB).h1.int_at hlt
            cases e6
            obtain ⟨x0, x1, x2, _⟩ := hset.out n hlt
            obtain ⟨b7, o7, e7, hb7, hc7, _⟩ := (hq0.below HB).h3.int_at (i := (rd cl n).toNat) (by have := hpl.out; dsimp only; omega)
            cases e7
            dsimp only at hc6 hc7
            have hpx := HG.out.pt (rd cl n).toNat (by omega)
            have x3 : rd cl n < q.points.length := by have := hpl.out; omega
            have hsum := sumTo_bd HG.out true (highTo q q.games.length) cl hhigh.1 (by omega) hdp hset.out n (by omega)
            have hterm := term_bd HG.out true (highTo q q.games.length) (rd cl n) hhigh.1 (by omega) hdp x0 x1
            have s1 : -32000000 ≤ sumTo q true (highTo q q.games.length) cl n := by omega
            have s2 : sumTo q true (highTo q q.games.length) cl n ≤ 32000000 := by omega
            go_upto_region 13 with (fail)
            refine Seg.regionB (by kernel_rfl) (by kernel_rfl) ?_
            repeat (first
              | (refine' Seg.pick_or (b := _) (x := _) (c := _) (y := _) rfl rfl rfl rfl ?_; simp only [Act.put, List.setIfInBounds_toArray, List.set_cons_zero, List.set_cons_succ])
              | (refine' Seg.pick_and (b := _) (x := _) (c := _) (y := _) rfl rfl rfl rfl ?_; simp only [Act.put, List.setIfInBounds_toArray, List.set_cons_zero, List.set_cons_succ])
              | (refine' Seg.val (v := _) rfl (fun w' hw => ?_) ?_; rotate_left 1; (obtain ⟨hbc, _⟩ := bcell hw; go_simp; rfl); simp only [Act.put, List.setIfInBounds_toArray, List.set_cons_zero, List.set_cons_succ])
              | (refine' Seg.skip ?_ ?_; (focus (first | (rw [Seg.wanted1 rfl rfl]; simp; done) | (rw [Seg.wanted2 rfl rfl]; simp; done))); simp only [Act.put, List.setIfInBounds_toArray, List.set_cons_zero, List.set_cons_succ])
              | (refine' Seg.pick_or_if (b := _) (x := _) (G := _) (c := _) (y := _) (by first | exact Seg.wanted1 rfl rfl | exact Seg.wanted2 rfl rfl) rfl rfl rfl ?_; simp only [Act.put, List.setIfInBounds_toArray, List.set_cons_zero, List.set_cons_succ])
              | (refine' Seg.pick_and_if (b := _) (x := _) (G := _) (c := _) (y := _) (by first | exact Seg.wanted1 rfl rfl | exact Seg.wanted2 rfl rfl) rfl rfl rfl ?_; simp only [Act.put, List.setIfInBounds_toArray, List.set_cons_zero, List.set_cons_succ])
              | (refine' Seg.val_if (v := _) (G := _) (by first | exact Seg.wanted1 rfl rfl | exact Seg.wanted2 rfl rfl) (fun hb w' hw => ?_) ?_; rotate_left 1; (simp only [Bool.and_eq_true, beq_iff_eq] at hb; obtain ⟨hbc, _⟩ := bcell hw; go_simp; rfl); simp only [Act.put, List.setIfInBounds_toArray, List.set_cons_zero, List.set_cons_succ]))
            refine' Seg.call (v := _) (f := _) (args := _) rfl (fun w' => ?_) (fun w' hw => callB hw (rmember_any B0 d0 fr (rd cl n) w' ((hk0.below HB).below hw).h0)) ?_
            · go_simp
            simp only [Act.put, List.setIfInBounds_toArray, List.set_cons_zero, List.set_cons_succ]
            repeat (first
              | (refine' Seg.pick_or (b := _) (x := _) (c := _) (y := _) rfl rfl rfl rfl ?_; simp only [Act.put, List.setIfInBounds_toArray, List.set_cons_zero, List.set_cons_succ])
              | (refine' Seg.pick_and (b := _) (x := _) (c := _) (y := _) rfl rfl rfl rfl ?_; simp only [Act.put, List.setIfInBounds_toArray, List.set_cons_zero, List.set_cons_succ])
              | (refine' Seg.val (v := _) rfl (fun w' hw => ?_) ?_; rotate_left 1; (obtain ⟨hbc, _⟩ := bcell hw; go_simp; rfl); simp only [Act.put, List.setIfInBounds_toArray, List.set_cons_zero, List.set_cons_succ])
              | (refine' Seg.skip ?_ ?_; (focus (first | (rw [Seg.wanted1 rfl rfl]; simp; done) | (rw [Seg.wanted2 rfl rfl]; simp; done))); simp only [Act.put, List.setIfInBounds_toArray, List.set_cons_zero, List.set_cons_succ])
              | (refine' Seg.pick_or_if (b := _) (x := _) (G := _) (c := _) (y := _) (by first | exact Seg.wanted1 rfl rfl | exact Seg.wanted2 rfl rfl) rfl rfl rfl ?_; simp only [Act.put, List.setIfInBounds_toArray, List.set_cons_zero, List.set_cons_succ])
              | (refine' Seg.pick_and_if (b := _) (x := _) (G := _) (c := _) (y := _) (by first | exact Seg.wanted1 rfl rfl | exact Seg.wanted2 rfl rfl) rfl rfl rfl ?_; simp only [Act.put, List.setIfInBounds_toArray, List.set_cons_zero, List.set_cons_succ])
              | (refine' Seg.val_if (v := _) (G := _) (by first | exact Seg.wanted1 rfl rfl | exact Seg.wanted2 rfl rfl) (fun hb w' hw => ?_) ?_; rotate_left 1; (simp only [Bool.and_eq_true, beq_iff_eq] at hb; obtain ⟨hbc, _⟩ := bcell hw; go_simp; rfl); simp only [Act.put, List.setIfInBounds_toArray, List.set_cons_zero, List.set_cons_succ]))
            intro w3 hw3
            have HB3 := bthen HB hw3
            clear lx cx fx ly cy fy hc6 hc7 hb6 hb7
            obtain ⟨lx, cx, fx⟩ := X0.below HB3
            obtain ⟨ly, cy, fy⟩ := Y0.below HB3
            cases hmem : decide (rd cl n ∈ fr)
            · go_wp2
              go_ret
              exact ⟨ret_bool (fits_not hlt hmem).symm, bthen hB0 HB3⟩
            · have HF1 : Hid (∀ i, i < n + 1 → decide (rd cl i ∈ fr) = true) := fun i hi => by
                rcases Nat.lt_or_ge i n with h' | h'
                · exact HF.out i h'
                · obtain rfl : i = n := by omega
                  exact hmem
              clear hmem
              obtain ⟨b6, o6, e6, hb6, hc6, _⟩ := (hk0.below HB3).h1.int_at hlt
              cases e6
              obtain ⟨b7, o7, e7, hb7, hc7, _⟩ := (hq0.below HB3).h3.int_at (i := (rd cl n).toNat) (by have := hpl.out; dsimp only; omega)
              cases e7
              dsimp only at hc6 hc7
              go_upto_region 15 with (fail)
              refine Seg.regionB (by kernel_rfl) (by kernel_rfl) ?_
              repeat (first
                | (refine' Seg.pick_or (b := _) (x := _) (c := _) (y := _) rfl rfl rfl rfl ?_; simp only [Act.put, List.setIfInBounds_toArray, List.set_cons_zero, List.set_cons_succ])
                | (refine' Seg.pick_and (b := _) (x := _) (c := _) (y := _) rfl rfl rfl rfl ?_; simp only [Act.put, List.setIfInBounds_toArray, List.set_cons_zero, List.set_cons_succ])
                | (refine' Seg.val (v := _) rfl (fun w' hw => ?_) ?_; rotate_left 1; (obtain ⟨hbc, _⟩ := bcell hw; go_simp; rfl); simp only [Act.put, List.setIfInBounds_toArray, List.set_cons_zero, List.set_cons_succ])
                | (refine' Seg.skip ?_ ?_; (focus (first | (rw [Seg.wanted1 rfl rfl]; simp; done) | (rw [Seg.wanted2 rfl rfl]; simp; done))); simp only [Act.put, List.setIfInBounds_toArray, List.set_cons_zero, List.set_cons_succ])
                | (refine' Seg.pick_or_if (b := _) (x := _) (G := _) (c := _) (y := _) (by first | exact Seg.wanted1 rfl rfl | exact Seg.wanted2 rfl rfl) rfl rfl rfl ?_; simp only [Act.put, List.setIfInBounds_toArray, List.set_cons_zero, List.set_cons_succ])
                | (refine' Seg.pick_and_if (b := _) (x := _) (G := _) (c := _) (y := _) (by first | exact Seg.wanted1 rfl rfl | exact Seg.wanted2 rfl rfl) rfl rfl rfl ?_; simp only [Act.put, List.setIfInBounds_toArray, List.set_cons_zero, List.set_cons_succ])
                | (refine' Seg.val_if (v := _) (G := _) (by first | exact Seg.wanted1 rfl rfl | exact Seg.wanted2 rfl rfl) (fun hb w' hw => ?_) ?_; rotate_left 1; (simp only [Bool.and_eq_true, beq_iff_eq] at hb; obtain ⟨hbc, _⟩ := bcell hw; go_simp; rfl); simp only [Act.put, List.setIfInBounds_toArray, List.set_cons_zero, List.set_cons_succ]))
              intro w5 hw5
              have HB5 := bthen HB3 hw5
              clear lx cx fx ly cy fy hc6 hc7 hb6 hb7
              obtain ⟨lx, cx, fx⟩ := X0.below HB5
              have f1 := floors HG.out (rd q.points (rd cl n).toNat - low q) (by unfold low; omega) (by unfold low; omega) hdp
              have e1 : IntKind.i64.wrap (rd q.points (rd cl n).toNat - low q) = rd q.points (rd cl n).toNat - low q := IntWalk.i64_in _ (by unfold low; omega)
              have e2 : IntKind.i64.wrap (-floorI (rd q.points (rd cl n).toNat - low q) q.draw) = -floorI (rd q.points (rd cl n).toNat - low q) q.draw := IntWalk.i64_in _ (by omega)
              have HT : Hid (IntKind.i64.wrap (sumTo q true (highTo q q.games.length) cl n + term q true (highTo q q.games.length) (rd cl n)) = sumTo q true (highTo q q.games.length) cl (n + 1)) := Lib.hid (IntWalk.i64_in _ (by omega))
              have hfl := fun w' => rfloor_any (rd q.points (rd cl n).toNat - low q) q.draw w' (by unfold low; omega) (by unfold low; omega) hdp hd1
              replace hfl := Lib.hid hfl
              go_wp2_with (go_at_call 94; refine (hfl.out _).mono ?_; rintro e w' ⟨rfl, rfl⟩)
              go_roundw
              case rel => exact ⟨n + 1, by omega, by go_num, by simp only [sumTo, term, if_true], HF1, HB5⟩
              case measure => simp [intOf]; omega
          · obtain rfl : n = cl.length := by omega
            have hsum := sumTo_bd HG.out true (highTo q q.games.length) cl hhigh.1 (by omega) hdp hset.out cl.length (by omega)
            go_wp2
            clear lx cx fx ly cy fy
            have HBa := bthen HB (balloc0 _ (.cells #[] 3))
            go_loopw [13, 14] (fun v13 v14 wp => ∃ (n : Nat) (A : Option Addr) (c : Nat), n ≤ q.games.length ∧ v14 = .int .i64 n ∧ v13 = .slice A (gamesTo q true cl n).length c ∧ OwnI .i64 3 wp W0.heap.size A c (gamesTo q true cl n) ∧ Below W0.heap.size W0 wp) (fun _ i _ => q.games.length - (intOf i).toNat)
            case atStart => exact ⟨0, _, 0, by omega, rfl, rfl, OwnI.made .i64 3 _ HB.size, HBa⟩
            case round =>
              obtain ⟨n, A, c, hn, rfl, rfl, hO, HB⟩ := hrel
              have HB' := bthen hB0 HB
              obtain ⟨lx, cx, fx⟩ := X0.below HB
              obtain ⟨ly, cy, fy⟩ := Y0.below HB
              by_cases hlt : n < q.games.length
              · obtain ⟨b4, o4, e4, hb4, hel, her, wl, wr'⟩ := (hq0.below HB).h4.edge_at hlt
                dsimp only at e4
                subst e4
                go_upto_region 23 with (fail)
                refine Seg.regionB (by kernel_rfl) (by kernel_rfl) ?_
                repeat (first
                  | (refine' Seg.pick_or (b := _) (x := _) (c := _) (y := _) rfl rfl rfl rfl ?_; simp only [Act.put, List.setIfInBounds_toArray, List.set_cons_zero, List.set_cons_succ])
                  | (refine' Seg.pick_and (b := _) (x := _) (c := _) (y := _) rfl rfl rfl rfl ?_; simp only [Act.put, List.setIfInBounds_toArray, List.set_cons_zero, List.set_cons_succ])
                  | (refine' Seg.val (v := _) rfl (fun w' hw => ?_) ?_; rotate_left 1; (obtain ⟨hbc, _⟩ := bcell hw; go_simp; rfl); simp only [Act.put, List.setIfInBounds_toArray, List.set_cons_zero, List.set_cons_succ])
                  | (refine' Seg.skip ?_ ?_; (focus (first | (rw [Seg.wanted1 rfl rfl]; simp; done) | (rw [Seg.wanted2 rfl rfl]; simp; done))); simp only [Act.put, List.setIfInBounds_toArray, List.set_cons_zero, List.set_cons_succ])
                  | (refine' Seg.pick_or_if (b := _) (x := _) (G := _) (c := _) (y := _) (by first | exact Seg.wanted1 rfl rfl | exact Seg.wanted2 rfl rfl) rfl rfl rfl ?_; simp only [Act.put, List.setIfInBounds_toArray, List.set_cons_zero, List.set_cons_succ])
                  | (refine' Seg.pick_and_if (b := _) (x := _) (G := _) (c := _) (y := _) (by first | exact Seg.wanted1 rfl rfl | exact Seg.wanted2 rfl rfl) rfl rfl rfl ?_; simp only [Act.put, List.setIfInBounds_toArray, List.set_cons_zero, List.set_cons_succ])
                  | (refine' Seg.val_if (v := _) (G := _) (by first | exact Seg.wanted1 rfl rfl | exact Seg.wanted2 rfl rfl) (fun hb w' hw => ?_) ?_; rotate_left 1; (simp only [Bool.and_eq_true, beq_iff_eq] at hb; obtain ⟨hbc, _⟩ := bcell hw; go_simp; rfl); simp only [Act.put, List.setIfInBounds_toArray, List.set_cons_zero, List.set_cons_succ]))
                refine' Seg.call (v := _) (f := _) (args := _) rfl (fun w' => ?_) (fun w' hw => callB hw (rmember_any (some ⟨b1, o1, none⟩) d1 cl (rdE q.games n).l w' ((hk0.below HB).below hw).h1)) ?_
                · go_simp
                simp only [Act.put, List.setIfInBounds_toArray, List.set_cons_zero, List.set_cons_succ]
                repeat (first
                  | (refine' Seg.pick_or (b := _) (x := _) (c := _) (y := _) rfl rfl rfl rfl ?_; simp only [Act.put, List.setIfInBounds_toArray, List.set_cons_zero, List.set_cons_succ])
                  | (refine' Seg.pick_and (b := _) (x := _) (c := _) (y := _) rfl rfl rfl rfl ?_; simp only [Act.put, List.setIfInBounds_toArray, List.set_cons_zero, List.set_cons_succ])
                  | (refine' Seg.val (v := _) rfl (fun w' hw => ?_) ?_; rotate_left 1; (obtain ⟨hbc, _⟩ := bcell hw; go_simp; rfl); simp only [Act.put, List.setIfInBounds_toArray, List.set_cons_zero, List.set_cons_succ])
                  | (refine' Seg.skip ?_ ?_; (focus (first | (rw [Seg.wanted1 rfl rfl]; simp; done) | (rw [Seg.wanted2 rfl rfl]; simp; done))); simp only [Act.put, List.setIfInBounds_toArray, List.set_cons_zero, List.set_cons_succ])
                  | (refine' Seg.pick_or_if (b := _) (x := _) (G := _) (c := _) (y := _) (by first | exact Seg.wanted1 rfl rfl | exact Seg.wanted2 rfl rfl) rfl rfl rfl ?_; simp only [Act.put, List.setIfInBounds_toArray, List.set_cons_zero, List.set_cons_succ])
                  | (refine' Seg.pick_and_if (b := _) (x := _) (G := _) (c := _) (y := _) (by first | exact Seg.wanted1 rfl rfl | exact Seg.wanted2 rfl rfl) rfl rfl rfl ?_; simp only [Act.put, List.setIfInBounds_toArray, List.set_cons_zero, List.set_cons_succ])
                  | (refine' Seg.val_if (v := _) (G := _) (by first | exact Seg.wanted1 rfl rfl | exact Seg.wanted2 rfl rfl) (fun hb w' hw => ?_) ?_; rotate_left 1; (simp only [Bool.and_eq_true, beq_iff_eq] at hb; obtain ⟨hbc, _⟩ := bcell hw; go_simp; rfl); simp only [Act.put, List.setIfInBounds_toArray, List.set_cons_zero, List.set_cons_succ]))
                intro w3 hw3
                clear lx cx fx ly cy fy hb4 hel her
                have HB3 := bthen HB hw3
                obtain ⟨lx, cx, fx⟩ := X0.below HB3
                obtain ⟨ly, cy, fy⟩ := Y0.below HB3
                obtain ⟨b4, o4, e4, hb4, hel, her, wl, wr'⟩ := (hq0.below HB3).h4.edge_at hlt
                dsimp only at e4
                cases e4
                go_upto_region 24 with (fail)
                refine Seg.regionB (by kernel_rfl) (by kernel_rfl) ?_
                repeat (first
                  | (refine' Seg.pick_or (b := _) (x := _) (c := _) (y := _) rfl rfl rfl rfl ?_; simp only [Act.put, List.setIfInBounds_toArray, List.set_cons_zero, List.set_cons_succ])
                  | (refine' Seg.pick_and (b := _) (x := _) (c := _) (y := _) rfl rfl rfl rfl ?_; simp only [Act.put, List.setIfInBounds_toArray, List.set_cons_zero, List.set_cons_succ])
                  | (refine' Seg.val (v := _) rfl (fun w' hw => ?_) ?_; rotate_left 1; (obtain ⟨hbc, _⟩ := bcell hw; go_simp; rfl); simp only [Act.put, List.setIfInBounds_toArray, List.set_cons_zero, List.set_cons_succ])
                  | (refine' Seg.skip ?_ ?_; (focus (first | (rw [Seg.wanted1 rfl rfl]; simp; done) | (rw [Seg.wanted2 rfl rfl]; simp; done))); simp only [Act.put, List.setIfInBounds_toArray, List.set_cons_zero, List.set_cons_succ])
                  | (refine' Seg.pick_or_if (b := _) (x := _) (G := _) (c := _) (y := _) (by first | exact Seg.wanted1 rfl rfl | exact Seg.wanted2 rfl rfl) rfl rfl rfl ?_; simp only [Act.put, List.setIfInBounds_toArray, List.set_cons_zero, List.set_cons_succ])
                  | (refine' Seg.pick_and_if (b := _) (x := _) (G := _) (c := _) (y := _) (by first | exact Seg.wanted1 rfl rfl | exact Seg.wanted2 rfl rfl) rfl rfl rfl ?_; simp only [Act.put, List.setIfInBounds_toArray, List.set_cons_zero, List.set_cons_succ])
                  | (refine' Seg.val_if (v := _) (G := _) (by first | exact Seg.wanted1 rfl rfl | exact Seg.wanted2 rfl rfl) (fun hb w' hw => ?_) ?_; rotate_left 1; (simp only [Bool.and_eq_true, beq_iff_eq] at hb; obtain ⟨hbc, _⟩ := bcell hw; go_simp; rfl); simp only [Act.put, List.setIfInBounds_toArray, List.set_cons_zero, List.set_cons_succ]))
                refine' Seg.call (v := _) (f := _) (args := _) rfl (fun w' => ?_) (fun w' hw => callB hw (rmember_any (some ⟨b1, o1, none⟩) d1 cl (rdE q.games n).r w' ((hk0.below HB3).below hw).h1)) ?_
                · go_simp
                simp only [Act.put, List.setIfInBounds_toArray, List.set_cons_zero, List.set_cons_succ]
                repeat (first
                  | (refine' Seg.pick_or (b := _) (x := _) (c := _) (y := _) rfl rfl rfl rfl ?_; simp only [Act.put, List.setIfInBounds_toArray, List.set_cons_zero, List.set_cons_succ])
                  | (refine' Seg.pick_and (b := _) (x := _) (c := _) (y := _) rfl rfl rfl rfl ?_; simp only [Act.put, List.setIfInBounds_toArray, List.set_cons_zero, List.set_cons_succ])
                  | (refine' Seg.val (v := _) rfl (fun w' hw => ?_) ?_; rotate_left 1; (obtain ⟨hbc, _⟩ := bcell hw; go_simp; rfl); simp only [Act.put, List.setIfInBounds_toArray, List.set_cons_zero, List.set_cons_succ])
                  | (refine' Seg.skip ?_ ?_; (focus (first | (rw [Seg.wanted1 rfl rfl]; simp; done) | (rw [Seg.wanted2 rfl rfl]; simp; done))); simp only [Act.put, List.setIfInBounds_toArray, List.set_cons_zero, List.set_cons_succ])
                  | (refine' Seg.pick_or_if (b := _) (x := _) (G := _) (c := _) (y := _) (by first | exact Seg.wanted1 rfl rfl | exact Seg.wanted2 rfl rfl) rfl rfl rfl ?_; simp only [Act.put, List.setIfInBounds_toArray, List.set_cons_zero, List.set_cons_succ])
                  | (refine' Seg.pick_and_if (b := _) (x := _) (G := _) (c := _) (y := _) (by first | exact Seg.wanted1 rfl rfl | exact Seg.wanted2 rfl rfl) rfl rfl rfl ?_; simp only [Act.put, List.setIfInBounds_toArray, List.set_cons_zero, List.set_cons_succ])
                  | (refine' Seg.val_if (v := _) (G := _) (by first | exact Seg.wanted1 rfl rfl | exact Seg.wanted2 rfl rfl) (fun hb w' hw => ?_) ?_; rotate_left 1; (simp only [Bool.and_eq_true, beq_iff_eq] at hb; obtain ⟨hbc, _⟩ := bcell hw; go_simp; rfl); simp only [Act.put, List.setIfInBounds_toArray, List.set_cons_zero, List.set_cons_succ]))
                intro w5 hw5
                clear lx cx fx ly cy fy hb4 hel her
                have HB5 := bthen HB3 hw5
                have hO5 := (hO.below hw3).below hw5
                have hgl := gamesTo_le q true cl n
                have hS5 : W0.heap.size ≤ w5.heap.size := HB5.size
                have hSel : ∀ bl br, decide ((rdE q.games n).l ∈ cl) = bl → decide ((rdE q.games n).r ∈ cl) = br → sel true cl (rdE q.games n) = ((bl && br) || (true && (bl || br))) := fun bl br h1 h2 => by rw [← h1, ← h2]; rfl
                cases hL : decide ((rdE q.games n).l ∈ cl) <;> cases hR : decide ((rdE q.games n).r ∈ cl)
                · have hs : Hid (sel true cl (rdE q.games n) = false) := Lib.hid (hSel _ _ hL hR)
                  clear hL hR hSel
                  go_wp2
                  go_roundw
                  case rel => exact ⟨n + 1, A, c, by omega, by go_num, by simp [gamesTo, hs.out], by simp only [gamesTo, hs.out]; simpa using hO5, HB5⟩
                  case measure => simp [intOf]; omega
                · have hs : Hid (sel true cl (rdE q.games n) = true) := Lib.hid (hSel _ _ hL hR)
                  clear hL hR hSel
                  go_wp2_with (at_builtin; refine append1 rfl _ _ 22 rfl Try.underlying22 infoI rfl (hO5.alloc _) ⟨w5.heap.size, 0, none⟩ n rfl (by simp [go_sem]) (WalkArith.wf_i64 (by omega)) (by omega) (by simp; omega) ?_; intro g c' w6 hO6 hg6 hn6 hl6)
                  go_roundw
                  case rel => exact ⟨n + 1, some ⟨g, 0, none⟩, c', by omega, by go_num, by simp [gamesTo, hs.out], by simpa only [gamesTo, hs.out, if_true] using hO6, below_append (balloc HB5 _) (hO5.alloc _) hg6 (by simp; omega)⟩
                  case measure => simp [intOf]; omega
                · have hs : Hid (sel true cl (rdE q.games n) = true) := Lib.hid (hSel _ _ hL hR)
                  clear hL hR hSel
                  go_wp2_with (at_builtin; refine append1 rfl _ _ 22 rfl Try.underlying22 infoI rfl (hO5.alloc _) ⟨w5.heap.size, 0, none⟩ n rfl (by simp [go_sem]) (WalkArith.wf_i64 (by omega)) (by omega) (by simp; omega) ?_; intro g c' w6 hO6 hg6 hn6 hl6)
                  go_roundw
                  case rel => exact ⟨n + 1, some ⟨g, 0, none⟩, c', by omega, by go_num, by simp [gamesTo, hs.out], by simpa only [gamesTo, hs.out, if_true] using hO6, below_append (balloc HB5 _) (hO5.alloc _) hg6 (by simp; omega)⟩
                  case measure => simp [intOf]; omega
                · have hs : Hid (sel true cl (rdE q.games n) = true) := Lib.hid (hSel _ _ hL hR)
                  clear hL hR hSel
                  go_wp2_with (at_builtin; refine append1 rfl _ _ 22 rfl Try.underlying22 infoI rfl (hO5.alloc _) ⟨w5.heap.size, 0, none⟩ n rfl (by simp [go_sem]) (WalkArith.wf_i64 (by omega)) (by omega) (by simp; omega) ?_; intro g c' w6 hO6 hg6 hn6 hl6)
                  go_roundw
                  case rel => exact ⟨n + 1, some ⟨g, 0, none⟩, c', by omega, by go_num, by simp [gamesTo, hs.out], by simpa only [gamesTo, hs.out, if_true] using hO6, below_append (balloc HB5 _) (hO5.alloc _) hg6 (by simp; omega)⟩
                  case measure => simp [intOf]; omega
              · obtain rfl : n = q.games.length := by omega
                have hgl := gamesTo_le q true cl q.games.length
                obtain ⟨_, hO2⟩ := And.intro hO.len hO.row
                obtain ⟨C1, C2, C3, C4⟩ := HC.out
                have HR := Lib.hid (fits_rest (gs := gs) C1 C2 C3 C4 C5.out HF.out)
                clear C1 C2 C3 C4
                cases heq : decide (gamesTo q true cl q.games.length = gs)
                all_goals
                  have HQ := Lib.hid heq
                  clear heq
                  have hsame := rsame_any A c (gamesTo q true cl q.games.length) B2 d2 gs _ hO2 (hk0.below HB).h2
                  rw [HQ.out] at hsame
                  replace hsame := Lib.hid hsame
                  go_wp2_with (go_at_call 74; refine hsame.out.mono ?_; rintro e w' ⟨rfl, hb9⟩)
                  go_ret
                  refine ⟨ret_bool ?_, bthen HB' hb9⟩
                  rw [HR.out, HQ.out]
                  first
                    | rfl
                    | (simp only [Bool.true_and]
                       exact decide_eq_decide.2 (by simp only [if_true]; omega))
      · have hfr1 : ((fr.length : Int) != q.place) = true := by simpa using hfr
        have C5 : Hid ((fr.length : Int) ≠ size q true) := Lib.hid (fun h => hfr (by rw [h]; rfl))
        clear hfr
        go_wp2
        go_ret
        refine ⟨ret_bool (Eq.symm ?_), hB1⟩
        have h5 : decide ((fr.length : Int) = size q true) = false := decide_eq_false C5.out
        rw [fits]
        dsimp only
        rw [h5]
        simp
  · go_wp2
    go_ret
    refine ⟨ret_bool ?_, hB1⟩
    have := HC.out
    simp only [Bool.true_eq_false, false_iff] at this
    rw [fits]
    cases h1 : halves q <;> cases h2 : isSet q fr <;> cases h3 : isSet q cl <;> simp [h1, h2, h3] at this ⊢
    exact fun h4 => absurd this h4
end Go.Proofs.Ytfmekjpmjefpmaa

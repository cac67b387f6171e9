/- The law WitnessCuts, walked. -/
import Derived.Test.YtfmekjpmjefpmaaWy
import Derived.Test.YtfmekjpmjefpmaaLaw
set_option linter.unusedSimpArgs false
set_option linter.unusedVariables false
namespace Go.Proofs.Ytfmekjpmjefpmaa
open Go.RowKit

/-- Bounds on a cut that comes in. -/
structure CBound (k : CutM) : Prop where
  f : k.c.free.length ≤ k.c0 ∧ k.c.free.length ≤ 1125899906842624
  c : k.c.clubs.length ≤ k.c1 ∧ k.c.clubs.length ≤ 1125899906842624
  g : k.c.games.length ≤ k.c2 ∧ k.c.games.length ≤ 1125899906842624
theorem cut_row {w : World} {b : Nat} {k : CutM} (h : Box w b #[.slice k.A0 k.c.free.length k.c0, .slice k.A1 k.c.clubs.length k.c1, .slice k.A2 k.c.games.length k.c2]) (hk : CutIn w k) (hb : CBound k) : Row Kd.cut w (some ⟨b, 0, none⟩) [k.c] := by
  refine ⟨by simp, fun _ => ⟨b, 0, rfl, h.lt, fun i y hi => ?_⟩⟩
  have hi0 : i = 0 := by
    rcases Nat.eq_zero_or_pos i with h' | h'
    · exact h'
    · rw [List.getElem?_eq_none (by simp; omega)] at hi; cases hi
  subst hi0
  simp at hi
  subst hi
  refine ⟨[.slice k.A0 k.c.free.length k.c0, .slice k.A1 k.c.clubs.length k.c1, .slice k.A2 k.c.games.length k.c2], ⟨[.slice k.A0 k.c.free.length k.c0], _, rfl, ⟨_, _, rfl, hb.f.1, hk.h0⟩, [.slice k.A1 k.c.clubs.length k.c1], _, rfl, ⟨_, _, rfl, hb.c.1, hk.h1⟩, ⟨_, _, rfl, hb.g.1, hk.h2⟩⟩, fun j u hu => ?_⟩
  have := h.cell j
  rw [Nat.zero_mul, Nat.zero_add, Nat.zero_add, this]
  simpa using hu

def hit (q : Race) (ce : Bool) (fr p : List Int) (i : Nat) : Bool := ((ce && decide ((i : Int) ∈ fr)) && decide (rd p i < rd p q.club.toNat)) || ((!ce && !decide ((i : Int) ∈ fr)) && decide (rd p q.club.toNat < rd p i))

set_option maxHeartbeats 8000000 in
set_option maxRecDepth 100000 in
theorem lawCuts_any (m : RaceM) (ce : Bool) (k : CutM) (B : Option Addr) (d : Nat) (ou : List Int) (w : World) (hq : RaceIn w m) (hk : CutIn w k) (hb : CBound k) (ho : Row (Kd.int .u8) w B ou) :
    Calls Try.prog 6 #[m.v, .bool ce, k.v, .slice B ou.length d] w fun e w' => e = .returned (.bool true) ∧ Below w.heap.size w w' := by
  obtain ⟨q, A2, c2, A3, c3, A4, c4⟩ := m
  obtain ⟨⟨fr, cl, gs⟩, B0, d0, B1, d1, B2, d2⟩ := k
  dsimp only [RaceM.v, CutM.v] at *
  go_enter Try.func6, Try.ntmps6
  go_upto_region 1 with (fail)
  obtain ⟨W0, hW0, hB0, X0, Y0⟩ := box2 w #[.int .i64 q.win, .int .i64 q.draw, .slice A2 q.clubs.length c2, .slice A3 q.points.length c3, .slice A4 q.games.length c4, .int .i64 q.club, .int .i64 q.place] #[.slice B0 fr.length d0, .slice B1 cl.length d1, .slice B2 gs.length d2] 25 43
  rw [hW0]
  clear hW0
  have hq0 := hq.below hB0
  have hk0 := hk.below hB0
  obtain ⟨lx, cx, fx⟩ := id X0
  go_upto_region 3 with (go_at_call 8; refine (sane_any _).mono ?_; rintro e w1 ⟨rfl, hb1⟩; obtain ⟨lx, cx, fx⟩ := X0.below hb1; obtain ⟨ly, cy, fy⟩ := Y0.below hb1)
  cases hf : few q
  · have HF := Lib.hid hf
    clear hf
    go_wp2_with (go_at_call 9; refine (few_any ⟨q, A2, c2, A3, c3, A4, c4⟩ _).mono ?_; rw [HF.out]; rintro e w2 ⟨rfl, hb2⟩)
    go_ret
    exact ⟨rfl, bthen hB0 (bthen hb1 hb2)⟩
  · have HF := Lib.hid hf
    clear hf
    go_wp2_with (go_at_call 9; refine (few_any ⟨q, A2, c2, A3, c3, A4, c4⟩ _).mono ?_; rw [HF.out]; rintro e w2 ⟨rfl, hb2⟩; obtain ⟨lx, cx, fx⟩ := X0.below (bthen hb1 hb2); obtain ⟨ly, cy, fy⟩ := Y0.below (bthen hb1 hb2))
    clear lx cx fx ly cy fy
    have hb2' := bthen hb1 hb2
    obtain ⟨W3, hW3, hb3, Z3⟩ := box1 w2 #[.slice B0 fr.length d0, .slice B1 cl.length d1, .slice B2 gs.length d2] 43
    rw [hW3]
    clear hW3
    have hb03 := bthen hb2' hb3
    have hrow := cut_row (k := ⟨⟨fr, cl, gs⟩, B0, d0, B1, d1, B2, d2⟩) Z3 (hk0.below hb03) hb
    have hcf := fewVerdict_any ⟨⟨0, [], [], [⟨fr, cl, gs⟩]⟩, none, 0, none, 0, some ⟨w2.heap.size, 0, none⟩, 1⟩ W3 ⟨Row.empty _ _, Row.empty _ _, hrow, rfl⟩
      ⟨by simp, by simp, by simp, fun j hj => by
        have : j = 0 := by simp at hj; omega
        subst this
        exact ⟨hb.f.2, hb.c.2, hb.g.2⟩⟩
    refine hcf.mono ?_
    clear hcf hrow Z3
    rintro e w4 ⟨rfl, hb4⟩
    have hb04 := bthen hb03 hb4
    obtain ⟨lx, cx, fx⟩ := X0.below hb04
    obtain ⟨ly, cy, fy⟩ := Y0.below hb04
    cases hsm : smallV ⟨0, [], [], [⟨fr, cl, gs⟩]⟩
    · go_wp2
      go_ret
      exact ⟨rfl, bthen hB0 hb04⟩
    · have hcut := cut_any ⟨q, A2, c2, A3, c3, A4, c4⟩ ce ⟨⟨fr, cl, gs⟩, B0, d0, B1, d1, B2, d2⟩ w4 (hq0.below hb04) (hk0.below hb04)
      replace hcut := Lib.hid hcut
      by_cases hcz : cutOf q ce ⟨fr, cl, gs⟩ = 0
      · have hok : validB q = true ∧ fits q ce ⟨fr, cl, gs⟩ = true := by
          unfold cutOf at hcz
          split at hcz
          · rename_i h
            split at hcz
            · rename_i h'; exact ⟨h, h'⟩
            · cases hcz
          · cases hcz
        have HCZ := Lib.hid hcz
        have HOK := Lib.hid hok
        have HG := Lib.hid (good_of hok.1)
        clear hcz hok hsm
        go_upto_region 5 with (go_at_call 18; refine hcut.out.mono ?_; rw [HCZ.out]; rintro e w5 ⟨rfl, hb5⟩; obtain ⟨lx, cx, fx⟩ := X0.below (bthen hb04 hb5); obtain ⟨ly, cy, fy⟩ := Y0.below (bthen hb04 hb5))
        have hb05 := bthen hb04 hb5
        have hval := refValid_any ⟨q, A2, c2, A3, c3, A4, c4⟩ w5 (hq0.below hb05)
        dsimp only at hval
        rw [HOK.out.1] at hval
        replace hval := Lib.hid hval
        go_upto_region 7 with (go_at_call 13; refine hval.out.mono ?_; rintro e w6 ⟨rfl, hb6⟩; obtain ⟨lx, cx, fx⟩ := X0.below (bthen hb05 hb6); obtain ⟨ly, cy, fy⟩ := Y0.below (bthen hb05 hb6))
        have hb06 := bthen hb05 hb6
        have hfin := finals_any ⟨q, A2, c2, A3, c3, A4, c4⟩ B d ou w6 (hq0.below hb06) ((ho.below hB0).below hb06) HG.out
        replace hfin := Lib.hid hfin
        go_wp2_with (go_at_call 15; refine hfin.out.mono ?_; rintro e w7 ⟨C, cap, rfl, hO, hb7⟩)
        have hshow := cut_shows HG.out ce ⟨fr, cl, gs⟩ (fit_of HOK.out.2) (outs q ou)
        have hpl : (after q (outs q ou)).length = q.points.length := afterTo_len q _ _
        generalize hP : after q (outs q ou) = P at hO hshow hpl
        have hPn : P.length ≤ 24 := by have := HG.out.pl; have := HG.out.n1; omega
        have hc0 := HG.out.c0
        have hc1 : q.club < P.length := by have := HG.out.pl; have := HG.out.c1; omega
        have HPl := Lib.hid hpl
        have HSh := Lib.hid hshow
        clear hP hpl hshow
        have hb07 := bthen hb06 hb7
        have hO' : Row (Kd.int .i64) w7 C P := hO.row
        obtain ⟨g, go, rfl, _⟩ := hO'.int_at (i := q.club.toNat) (by omega)
        clear hO lx cx fx ly cy fy
        go_loopw [10] (fun v10 wr => ∃ n : Nat, n ≤ P.length ∧ v10 = .int .i64 n ∧ Hid (∀ i, i < n → (i : Int) ≠ q.club → hit q ce fr P i = false) ∧ Below w7.heap.size w7 wr) (fun v10 _ => P.length - (intOf v10).toNat)
        case atStart => exact ⟨0, by omega, rfl, fun i hi => by omega, Below.refl _ _⟩
        case round =>
          obtain ⟨n, hn, rfl, HN, HB⟩ := hrel
          have hbr := bthen hb07 HB
          by_cases hlt : n < P.length
          · obtain ⟨lx, cx, fx⟩ := X0.below hbr
            obtain ⟨ly, cy, fy⟩ := Y0.below hbr
            have hOr := hO'.below HB
            obtain ⟨g1, o1, e1, hlb1, hcn, hwn⟩ := hOr.int_at (i := n) hlt
            cases e1
            obtain ⟨g2, o2, e2, hlb2, hcc, hwc⟩ := hOr.int_at (i := q.club.toNat) (by omega)
            cases e2
            by_cases hnc : (n : Int) = q.club
            · have hnc' : ((n : Int) == q.club) = true := by simpa using hnc
              have HNC := Lib.hid hnc
              clear hnc
              go_wp2
              go_roundw
              case rel =>
                refine ⟨n + 1, by omega, by go_num, fun i hi hne => ?_, HB⟩
                rcases Nat.lt_or_ge i n with h' | h'
                · exact HN.out i h' hne
                · obtain rfl : i = n := by omega
                  exact absurd HNC.out hne
              case measure => simp [intOf]; omega
            · have hnc' : ((n : Int) == q.club) = false := by simpa using hnc
              have HNC := Lib.hid hnc
              clear hnc
              go_upto_region 12 with (fail)
              refine Seg.regionB (by kernel_rfl) (by kernel_rfl) ?_
              repeat (first
                | (refine' Seg.pick_or (b := _) (x := _) (c := _) (y := _) rfl rfl rfl rfl ?_; simp only [Act.put, List.setIfInBounds_toArray, List.set_cons_zero, List.set_cons_succ])
                | (refine' Seg.pick_and (b := _) (x := _) (c := _) (y := _) rfl rfl rfl rfl ?_; simp only [Act.put, List.setIfInBounds_toArray, List.set_cons_zero, List.set_cons_succ])
                | (refine' Seg.val (v := _) rfl (fun w' hw => ?_) ?_; rotate_left 1; (obtain ⟨hbc, _⟩ := bcell hw; go_simp; rfl); simp only [Act.put, List.setIfInBounds_toArray, List.set_cons_zero, List.set_cons_succ])
                | (refine' Seg.skip ?_ ?_; (focus (first | (rw [Seg.wanted1 rfl rfl]; simp; done) | (rw [Seg.wanted2 rfl rfl]; simp; done))); simp only [Act.put, List.setIfInBounds_toArray, List.set_cons_zero, List.set_cons_succ])
                | (refine' Seg.pick_or_if (b := _) (x := _) (G := _) (c := _) (y := _) (by first | exact Seg.wanted1 rfl rfl | exact Seg.wanted2 rfl rfl) rfl rfl rfl ?_; simp only [Act.put, List.setIfInBounds_toArray, List.set_cons_zero, List.set_cons_succ])
                | (refine' Seg.pick_and_if (b := _) (x := _) (G := _) (c := _) (y := _) (by first | exact Seg.wanted1 rfl rfl | exact Seg.wanted2 rfl rfl) rfl rfl rfl ?_; simp only [Act.put, List.setIfInBounds_toArray, List.set_cons_zero, List.set_cons_succ])
                | (refine' Seg.val_if (v := _) (G := _) (by first | exact Seg.wanted1 rfl rfl | exact Seg.wanted2 rfl rfl) (fun hb w' hw => ?_) ?_; rotate_left 1; (simp only [Bool.and_eq_true, beq_iff_eq] at hb; obtain ⟨hbc, _⟩ := bcell hw; go_simp; rfl); simp only [Act.put, List.setIfInBounds_toArray, List.set_cons_zero, List.set_cons_succ]))
              refine' Seg.call_if (v := _) (G := _) (f := _) (args := _) (by first | exact Seg.wanted1 rfl rfl | exact Seg.wanted2 rfl rfl) (fun hb w' => ?_) (fun hb w' hw => callE hw (member_any B0 d0 fr n w' ((hk0.below hbr).below hw).h0)) ?_
              · simp only [Bool.and_eq_true, beq_iff_eq] at hb
                go_simp
              simp only [Act.put, List.setIfInBounds_toArray, List.set_cons_zero, List.set_cons_succ]
              repeat (first
                | (refine' Seg.pick_or (b := _) (x := _) (c := _) (y := _) rfl rfl rfl rfl ?_; simp only [Act.put, List.setIfInBounds_toArray, List.set_cons_zero, List.set_cons_succ])
                | (refine' Seg.pick_and (b := _) (x := _) (c := _) (y := _) rfl rfl rfl rfl ?_; simp only [Act.put, List.setIfInBounds_toArray, List.set_cons_zero, List.set_cons_succ])
                | (refine' Seg.val (v := _) rfl (fun w' hw => ?_) ?_; rotate_left 1; (obtain ⟨hbc, _⟩ := bcell hw; go_simp; rfl); simp only [Act.put, List.setIfInBounds_toArray, List.set_cons_zero, List.set_cons_succ])
                | (refine' Seg.skip ?_ ?_; (focus (first | (rw [Seg.wanted1 rfl rfl]; simp; done) | (rw [Seg.wanted2 rfl rfl]; simp; done))); simp only [Act.put, List.setIfInBounds_toArray, List.set_cons_zero, List.set_cons_succ])
                | (refine' Seg.pick_or_if (b := _) (x := _) (G := _) (c := _) (y := _) (by first | exact Seg.wanted1 rfl rfl | exact Seg.wanted2 rfl rfl) rfl rfl rfl ?_; simp only [Act.put, List.setIfInBounds_toArray, List.set_cons_zero, List.set_cons_succ])
                | (refine' Seg.pick_and_if (b := _) (x := _) (G := _) (c := _) (y := _) (by first | exact Seg.wanted1 rfl rfl | exact Seg.wanted2 rfl rfl) rfl rfl rfl ?_; simp only [Act.put, List.setIfInBounds_toArray, List.set_cons_zero, List.set_cons_succ])
                | (refine' Seg.val_if (v := _) (G := _) (by first | exact Seg.wanted1 rfl rfl | exact Seg.wanted2 rfl rfl) (fun hb w' hw => ?_) ?_; rotate_left 1; (simp only [Bool.and_eq_true, beq_iff_eq] at hb; obtain ⟨hbc, _⟩ := bcell hw; go_simp; rfl); simp only [Act.put, List.setIfInBounds_toArray, List.set_cons_zero, List.set_cons_succ]))
              refine' Seg.call_if (v := _) (G := _) (f := _) (args := _) (by first | exact Seg.wanted1 rfl rfl | exact Seg.wanted2 rfl rfl) (fun hb w' => ?_) (fun hb w' hw => callE hw (member_any B0 d0 fr n w' ((hk0.below hbr).below hw).h0)) ?_
              · simp only [Bool.and_eq_true, beq_iff_eq] at hb
                go_simp
              simp only [Act.put, List.setIfInBounds_toArray, List.set_cons_zero, List.set_cons_succ]
              repeat (first
                | (refine' Seg.pick_or (b := _) (x := _) (c := _) (y := _) rfl rfl rfl rfl ?_; simp only [Act.put, List.setIfInBounds_toArray, List.set_cons_zero, List.set_cons_succ])
                | (refine' Seg.pick_and (b := _) (x := _) (c := _) (y := _) rfl rfl rfl rfl ?_; simp only [Act.put, List.setIfInBounds_toArray, List.set_cons_zero, List.set_cons_succ])
                | (refine' Seg.val (v := _) rfl (fun w' hw => ?_) ?_; rotate_left 1; (obtain ⟨hbc, _⟩ := bcell hw; go_simp; rfl); simp only [Act.put, List.setIfInBounds_toArray, List.set_cons_zero, List.set_cons_succ])
                | (refine' Seg.skip ?_ ?_; (focus (first | (rw [Seg.wanted1 rfl rfl]; simp; done) | (rw [Seg.wanted2 rfl rfl]; simp; done))); simp only [Act.put, List.setIfInBounds_toArray, List.set_cons_zero, List.set_cons_succ])
                | (refine' Seg.pick_or_if (b := _) (x := _) (G := _) (c := _) (y := _) (by first | exact Seg.wanted1 rfl rfl | exact Seg.wanted2 rfl rfl) rfl rfl rfl ?_; simp only [Act.put, List.setIfInBounds_toArray, List.set_cons_zero, List.set_cons_succ])
                | (refine' Seg.pick_and_if (b := _) (x := _) (G := _) (c := _) (y := _) (by first | exact Seg.wanted1 rfl rfl | exact Seg.wanted2 rfl rfl) rfl rfl rfl ?_; simp only [Act.put, List.setIfInBounds_toArray, List.set_cons_zero, List.set_cons_succ])
                | (refine' Seg.val_if (v := _) (G := _) (by first | exact Seg.wanted1 rfl rfl | exact Seg.wanted2 rfl rfl) (fun hb w' hw => ?_) ?_; rotate_left 1; (simp only [Bool.and_eq_true, beq_iff_eq] at hb; obtain ⟨hbc, _⟩ := bcell hw; go_simp; rfl); simp only [Act.put, List.setIfInBounds_toArray, List.set_cons_zero, List.set_cons_succ]))
              intro w9 hw9
              clear lx cx fx ly cy fy hcn hcc
              repeat ((conv in Seg.opt _ _ => skip); generalize Seg.opt _ _ = u)
              generalize hcd : (_ || (_ && decide (rd P q.club.toNat < rd P n))) = cd
              have HX : Hid (hit q ce fr P n = cd) := Lib.hid hcd
              clear hcd
              cases cd
              · go_wp2
                go_roundw
                case rel =>
                  refine ⟨n + 1, by omega, by go_num, fun i hi hne => ?_, bthen HB hw9⟩
                  rcases Nat.lt_or_ge i n with h' | h'
                  · exact HN.out i h' hne
                  · obtain rfl : i = n := by omega
                    exact HX.out
                case measure => simp [intOf]; omega
              · go_wp2
                go_ret
                exact ⟨rfl, bthen hB0 (bthen hbr hw9)⟩
          · exfalso
            obtain ⟨i, hi, hne, hor⟩ := HSh.out
            have h1 := HN.out i (by have := HPl.out; omega) hne
            simp only [hit, Bool.or_eq_false_iff, Bool.and_eq_false_iff, decide_eq_false_iff_not, Bool.not_eq_false', decide_eq_true_eq] at h1
            rcases hor with ⟨rfl, h3, h4⟩ | ⟨rfl, h3, h4⟩
            · rcases h1.1 with (h | h) | h
              · cases h
              · exact h h3
              · exact h h4
            · rcases h1.2 with (h | h) | h
              · cases h
              · exact h3 h
              · exact h h4
      · have hne : (cutOf q ce ⟨fr, cl, gs⟩ != 0) = true := by simpa using hcz
        have HN := Lib.hid hcz
        clear hcz
        go_wp2_with (go_at_call 18; refine hcut.out.mono ?_; rintro e w5 ⟨rfl, hb5⟩)
        go_ret
        exact ⟨rfl, bthen hB0 (bthen hb04 hb5)⟩
end Go.Proofs.Ytfmekjpmjefpmaa

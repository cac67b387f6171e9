/- Reached and Missed, walked. -/
import Derived.Test.YtfmekjpmjefpmaaWg
set_option linter.unusedSimpArgs false
set_option linter.unusedVariables false
namespace Go.Proofs.Ytfmekjpmjefpmaa
open Go.RowKit

theorem completion_no (m : RaceM) (B : Option Addr) (d : Nat) (o : List Int) (w : World) (hq : RaceIn w m) (ho : Row (Kd.int .i64) w B o) (h : validB m.q = false) :
    Calls Try.prog 27 #[m.v, .slice B o.length d] w fun e w' => e = .returned (.tuple #[zeroRace, .int .i64 280]) ∧ Below w.heap.size w w' :=
  (completion_any m B d o w hq ho).mono fun e w' ⟨h1, h2⟩ => ⟨by rw [h1, complOf, h]; rfl, h2⟩
theorem completion_bad (m : RaceM) (B : Option Addr) (d : Nat) (o : List Int) (w : World) (hq : RaceIn w m) (ho : Row (Kd.int .i64) w B o) (h : validB m.q = true) (ha : badArg m.q o = true) :
    Calls Try.prog 27 #[m.v, .slice B o.length d] w fun e w' => e = .returned (.tuple #[m.v, .int .i64 1]) ∧ Below w.heap.size w w' :=
  (completion_any m B d o w hq ho).mono fun e w' ⟨h1, h2⟩ => ⟨by rw [h1, complOf, h, ha]; rfl, h2⟩
theorem completion_ok (m : RaceM) (B : Option Addr) (d : Nat) (o : List Int) (w : World) (hq : RaceIn w m) (ho : Row (Kd.int .i64) w B o) (h : validB m.q = true) (ha : badArg m.q o = false) :
    Calls Try.prog 27 #[m.v, .slice B o.length d] w fun e w' => e = .returned (.tuple #[m.v, .int .i64 0]) ∧ Below w.heap.size w w' :=
  (completion_any m B d o w hq ho).mono fun e w' ⟨h1, h2⟩ => ⟨by rw [h1, complOf, h, ha]; rfl, h2⟩
theorem badArg_len {q : Race} {o : List Int} (h : badArg q o = false) : o.length = q.games.length := by
  simp only [badArg, Bool.or_eq_false_iff, bne_eq_false_iff_eq] at h
  omega

def reachedOf (q : Race) (o : List Int) : Int := if complOf q o = 0 then (if q.place ≤ more q o then 290 else 0) else complOf q o
set_option maxHeartbeats 4000000 in
set_option maxRecDepth 100000 in
theorem reached_any (m : RaceM) (B : Option Addr) (d : Nat) (o : List Int) (w : World) (hq : RaceIn w m) (ho : Row (Kd.int .i64) w B o) :
    Calls Try.prog 16 #[m.v, .slice B o.length d] w fun e w' => e = .returned (.int .i64 (reachedOf m.q o)) ∧ Below w.heap.size w w' := by
  obtain ⟨q, A2, c2, A3, c3, A4, c4⟩ := m
  dsimp only [RaceM.v] at *
  generalize hres : (Ending.returned (.int .i64 (reachedOf q o))) = R
  have HRes := Lib.hid hres
  clear hres
  go_enter Try.func16, Try.ntmps16
  go_upto_region 1 with (fail)
  obtain ⟨W0, hW0, hB0, X0⟩ := box1 w #[.int .i64 q.win, .int .i64 q.draw, .slice A2 q.clubs.length c2, .slice A3 q.points.length c3, .slice A4 q.games.length c4, .int .i64 q.club, .int .i64 q.place] 25
  rw [hW0]
  clear hW0
  have hq0 := hq.below hB0
  have ho0 := ho.below hB0
  obtain ⟨lx, cx, fx⟩ := id X0
  cases hv : validB q
  · have hv' := Lib.hid hv
    clear hv
    go_wp2_with (go_at_call 27; refine (completion_no ⟨q, A2, c2, A3, c3, A4, c4⟩ B d o W0 hq0 ho0 hv'.out).mono ?_; rintro e w' ⟨rfl, hb9⟩)
    go_ret
    refine ⟨?_, balloc (bthen hB0 hb9) _⟩
    rw [← HRes.out, reachedOf, complOf, hv'.out]
    rfl
  · have hv' := Lib.hid hv
    clear hv
    cases ha : badArg q o
    · have ha' := Lib.hid ha
      clear ha
      go_wp2_with (go_at_call 27; refine (completion_ok ⟨q, A2, c2, A3, c3, A4, c4⟩ B d o W0 hq0 ho0 hv'.out ha'.out).mono ?_; rintro e w' ⟨rfl, hb9⟩)
      have hb10 := bthen hb9 (balloc0 w' (.cells #[.int .i64 q.win, .int .i64 q.draw, .slice A2 q.clubs.length c2, .slice A3 q.points.length c3, .slice A4 q.games.length c4, .int .i64 q.club, .int .i64 q.place] 53))
      have HF := above_any ⟨q, A2, c2, A3, c3, A4, c4⟩ B d o _ (hq0.below hb10) (ho0.below hb10) (badArg_len ha'.out) (good_of hv'.out)
      go_wp2_with (go_at_call 28; refine HF.mono ?_; rintro e w' ⟨rfl, hb11⟩; obtain ⟨lx, cx, fx⟩ := X0.below (bthen hb10 hb11))
      all_goals
        rename_i hc
        go_ret
        refine ⟨?_, bthen (bthen hB0 hb10) hb11⟩
        rw [← HRes.out, reachedOf, complOf, hv'.out, ha'.out]
        first
          | (rw [if_pos (show (if true = true then (if false = true then (1 : Int) else 0) else 280) = 0 from rfl), if_pos (by first | exact hc | omega)]; rfl)
          | (rw [if_pos (show (if true = true then (if false = true then (1 : Int) else 0) else 280) = 0 from rfl), if_neg (by first | exact hc | omega)]; rfl)
    · have ha' := Lib.hid ha
      clear ha
      go_wp2_with (go_at_call 27; refine (completion_bad ⟨q, A2, c2, A3, c3, A4, c4⟩ B d o W0 hq0 ho0 hv'.out ha'.out).mono ?_; rintro e w' ⟨rfl, hb9⟩)
      go_ret
      refine ⟨?_, balloc (bthen hB0 hb9) _⟩
      rw [← HRes.out, reachedOf, complOf, hv'.out, ha'.out]
      rfl

def missedOf (q : Race) (o : List Int) : Int := if complOf q o = 0 then (if many q o < q.place then 290 else 0) else complOf q o
set_option maxHeartbeats 4000000 in
set_option maxRecDepth 100000 in
theorem missed_any (m : RaceM) (B : Option Addr) (d : Nat) (o : List Int) (w : World) (hq : RaceIn w m) (ho : Row (Kd.int .i64) w B o) :
    Calls Try.prog 17 #[m.v, .slice B o.length d] w fun e w' => e = .returned (.int .i64 (missedOf m.q o)) ∧ Below w.heap.size w w' := by
  obtain ⟨q, A2, c2, A3, c3, A4, c4⟩ := m
  dsimp only [RaceM.v] at *
  generalize hres : (Ending.returned (.int .i64 (missedOf q o))) = R
  have HRes := Lib.hid hres
  clear hres
  go_enter Try.func17, Try.ntmps17
  go_upto_region 1 with (fail)
  obtain ⟨W0, hW0, hB0, X0⟩ := box1 w #[.int .i64 q.win, .int .i64 q.draw, .slice A2 q.clubs.length c2, .slice A3 q.points.length c3, .slice A4 q.games.length c4, .int .i64 q.club, .int .i64 q.place] 25
  rw [hW0]
  clear hW0
  have hq0 := hq.below hB0
  have ho0 := ho.below hB0
  obtain ⟨lx, cx, fx⟩ := id X0
  cases hv : validB q
  · have hv' := Lib.hid hv
    clear hv
    go_wp2_with (go_at_call 27; refine (completion_no ⟨q, A2, c2, A3, c3, A4, c4⟩ B d o W0 hq0 ho0 hv'.out).mono ?_; rintro e w' ⟨rfl, hb9⟩)
    go_ret
    refine ⟨?_, balloc (bthen hB0 hb9) _⟩
    rw [← HRes.out, missedOf, complOf, hv'.out]
    rfl
  · have hv' := Lib.hid hv
    clear hv
    cases ha : badArg q o
    · have ha' := Lib.hid ha
      clear ha
      go_wp2_with (go_at_call 27; refine (completion_ok ⟨q, A2, c2, A3, c3, A4, c4⟩ B d o W0 hq0 ho0 hv'.out ha'.out).mono ?_; rintro e w' ⟨rfl, hb9⟩)
      have hb10 := bthen hb9 (balloc0 w' (.cells #[.int .i64 q.win, .int .i64 q.draw, .slice A2 q.clubs.length c2, .slice A3 q.points.length c3, .slice A4 q.games.length c4, .int .i64 q.club, .int .i64 q.place] 53))
      have HF := above_any ⟨q, A2, c2, A3, c3, A4, c4⟩ B d o _ (hq0.below hb10) (ho0.below hb10) (badArg_len ha'.out) (good_of hv'.out)
      go_wp2_with (go_at_call 28; refine HF.mono ?_; rintro e w' ⟨rfl, hb11⟩; obtain ⟨lx, cx, fx⟩ := X0.below (bthen hb10 hb11))
      all_goals
        rename_i hc
        go_ret
        refine ⟨?_, bthen (bthen hB0 hb10) hb11⟩
        rw [← HRes.out, missedOf, complOf, hv'.out, ha'.out]
        first
          | (rw [if_pos (show (if true = true then (if false = true then (1 : Int) else 0) else 280) = 0 from rfl), if_pos (by first | exact hc | omega)]; rfl)
          | (rw [if_pos (show (if true = true then (if false = true then (1 : Int) else 0) else 280) = 0 from rfl), if_neg (by first | exact hc | omega)]; rfl)
    · have ha' := Lib.hid ha
      clear ha
      go_wp2_with (go_at_call 27; refine (completion_bad ⟨q, A2, c2, A3, c3, A4, c4⟩ B d o W0 hq0 ho0 hv'.out ha'.out).mono ?_; rintro e w' ⟨rfl, hb9⟩)
      go_ret
      refine ⟨?_, balloc (bthen hB0 hb9) _⟩
      rw [← HRes.out, missedOf, complOf, hv'.out, ha'.out]
      rfl

end Go.Proofs.Ytfmekjpmjefpmaa

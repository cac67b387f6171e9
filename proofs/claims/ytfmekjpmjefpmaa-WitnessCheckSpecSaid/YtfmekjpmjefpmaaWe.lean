/- Cut, completion, above, Reached, Missed, walked. -/
import Derived.Test.YtfmekjpmjefpmaaWd
set_option linter.unusedSimpArgs false
set_option linter.unusedVariables false
namespace Go.Proofs.Ytfmekjpmjefpmaa
open Go.RowKit

theorem check_ok (m : RaceM) (w : World) (hq : RaceIn w m) (h : validB m.q = true) :
    Calls Try.prog 21 #[m.v] w fun e w' => e = .returned (.tuple #[m.v, .bool true]) ∧ Below w.heap.size w w' :=
  (check_any m w hq).mono fun e w' ⟨h1, h2⟩ => ⟨by rw [h1, h]; rfl, h2⟩
theorem check_no (m : RaceM) (w : World) (hq : RaceIn w m) (h : validB m.q = false) :
    Calls Try.prog 21 #[m.v] w fun e w' => e = .returned (.tuple #[zeroRace, .bool false]) ∧ Below w.heap.size w w' :=
  (check_any m w hq).mono fun e w' ⟨h1, h2⟩ => ⟨by rw [h1, h]; rfl, h2⟩

def cutOf (q : Race) (ce : Bool) (c : Cut) : Int := if validB q = true then (if fits q ce c = true then 0 else 290) else 280
set_option maxHeartbeats 4000000 in
set_option maxRecDepth 100000 in
theorem cut_any (m : RaceM) (ce : Bool) (k : CutM) (w : World) (hq : RaceIn w m) (hk : CutIn w k) :
    Calls Try.prog 18 #[m.v, .bool ce, k.v] w fun e w' => e = .returned (.int .i64 (cutOf m.q ce k.c)) ∧ Below w.heap.size w w' := by
  obtain ⟨q, A2, c2, A3, c3, A4, c4⟩ := m
  obtain ⟨⟨fr, cl, gs⟩, B0, d0, B1, d1, B2, d2⟩ := k
  dsimp only [RaceM.v, CutM.v] at *
  generalize hres : (Ending.returned (.int .i64 (cutOf q ce _))) = R
  have HRes := Lib.hid hres
  clear hres
  go_enter Try.func18, Try.ntmps18
  go_upto_region 1 with (fail)
  obtain ⟨W0, hW0, hB0, X0, Y0⟩ := box2 w #[.int .i64 q.win, .int .i64 q.draw, .slice A2 q.clubs.length c2, .slice A3 q.points.length c3, .slice A4 q.games.length c4, .int .i64 q.club, .int .i64 q.place] #[.slice B0 fr.length d0, .slice B1 cl.length d1, .slice B2 gs.length d2] 25 43
  rw [hW0]
  clear hW0
  have hq0 := hq.below hB0
  have hk0 := hk.below hB0
  obtain ⟨lx, cx, fx⟩ := id X0
  cases hv : validB q
  · have hv' := Lib.hid hv
    clear hv
    go_wp2_with (go_at_call 21; refine (check_no ⟨q, A2, c2, A3, c3, A4, c4⟩ W0 hq0 hv'.out).mono ?_; rintro e w' ⟨rfl, hb9⟩)
    go_ret
    refine ⟨?_, balloc (bthen hB0 hb9) _⟩
    rw [← HRes.out, cutOf, hv'.out]
    rfl
  · have hv' := Lib.hid hv
    clear hv
    go_wp2_with (go_at_call 21; refine (check_ok ⟨q, A2, c2, A3, c3, A4, c4⟩ W0 hq0 hv'.out).mono ?_; rintro e w' ⟨rfl, hb9⟩; obtain ⟨ly, cy, fy⟩ := Y0.below hb9)
    have hb10 := bthen hb9 (balloc0 w' (.cells #[.int .i64 q.win, .int .i64 q.draw, .slice A2 q.clubs.length c2, .slice A3 q.points.length c3, .slice A4 q.games.length c4, .int .i64 q.club, .int .i64 q.place] 53))
    have HF := fits_any ⟨q, A2, c2, A3, c3, A4, c4⟩ ce ⟨⟨fr, cl, gs⟩, B0, d0, B1, d1, B2, d2⟩ _ (hq0.below hb10) (hk0.below hb10) (good_of hv'.out)
    cases hf : fits q ce ⟨fr, cl, gs⟩
    all_goals
      replace hf := Lib.hid hf
      go_wp2_with (go_at_call 29; refine HF.mono ?_; rintro e w' ⟨rfl, hb11⟩; rw [hf.out])
      go_ret
      refine ⟨?_, bthen (bthen hB0 hb10) hb11⟩
      rw [← HRes.out, cutOf, hv'.out, hf.out]
      rfl
end Go.Proofs.Ytfmekjpmjefpmaa

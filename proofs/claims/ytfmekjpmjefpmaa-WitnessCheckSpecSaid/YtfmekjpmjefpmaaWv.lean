/- Check, walked. -/
import Derived.Test.YtfmekjpmjefpmaaWu
import Derived.MapKept
set_option linter.unusedSimpArgs false
set_option linter.unusedVariables false
namespace Go.Proofs.Ytfmekjpmjefpmaa
open Go.RowKit Go.MapKept

/-- A map's literal: a new key is put in. -/
theorem map_put {w : World} {r : Nat} {es : Array MapEntry} {clock : Nat} (k : Int) (v : Value) (hb : w.heap[r]? = some (.map es clock)) (hn : Instr.findNow (.int .i64) (.int .i64 k) es.toList 0 = some none) :
    ∃ w', (Instr.mapUpdate 56 (.map (some r)) (.int .i64 k) v).run Try.prog w = .ok () w' ∧ w'.heap[r]? = some (.map (es.push { key := .int .i64 k, val := v, born := clock }) (clock + 1)) ∧ Below r w w' := by
  have hlt : r < w.heap.size := (Array.getElem?_eq_some_iff.1 hb).1
  refine ⟨w.putObj r (.map (es.push { key := .int .i64 k, val := v, born := clock }) (clock + 1)), ?_, World.putObj_heap_same hlt, below_putObj (Below.refl _ _) (Nat.le_refl _) _⟩
  have h1 : (Instr.checkKey false 10000 3 (.int .i64 k)).run Try.prog w = .ok () w := run_checkKey (n := 9999) (d := .int .i64) (k := .int .i64 k) Try.underlying3 (show IntKind.i64 = IntKind.i64 from rfl) _
  simp [Instr.mapUpdate, Sem.run_bind, run_underlying Try.underlying56, MapKept.run_getObj_map hb, h1, run_findKey Try.underlying3 hn, run_setObj_map _ hb, Result.andThen, World.putObj]
theorem map_get {w : World} {r : Nat} {es : Array MapEntry} {clock : Nat} (k : Int) (a : Option (Nat × Value)) (hb : w.heap[r]? = some (.map es clock)) (hn : Instr.findNow (.int .i64) (.int .i64 k) es.toList 0 = some a) (hz : (zeroValue 31).run Try.prog w = .ok .nilFunc w) :
    (Instr.lookup 56 (.map (some r)) (.int .i64 k) true).run Try.prog w = .ok (.tuple #[(a.map (·.2)).getD .nilFunc, .bool a.isSome]) w := by
  have h1 : (Instr.checkKey es.isEmpty 10000 3 (.int .i64 k)).run Try.prog w = .ok () w := run_checkKey (n := 9999) (d := .int .i64) (k := .int .i64 k) Try.underlying3 (show IntKind.i64 = IntKind.i64 from rfl) _
  cases a <;> simp [Instr.lookup, Sem.run_bind, run_underlying Try.underlying56, MapKept.run_getObj_map hb, h1, run_findKey Try.underlying3 hn, Result.andThen, hz]

/-- What Check answers. -/
def showsB (q : Race) (v : Verdict) : Bool := if v.kind = 1 then shownB q true v else if v.kind = 2 then shownB q false v else if v.kind = 3 then openB q v else if v.kind = 4 then unknownB q v else false
def checkOf (q : Race) (v : Verdict) : Int := if validB q = true then (if showsB q v = true then 0 else 290) else 280

set_option maxHeartbeats 8000000 in
set_option maxRecDepth 100000 in
theorem check2_any (m : RaceM) (v : VerdictM) (w : World) (hq : RaceIn w m) (hv : VerdictIn w v) (hs : VSmall v) :
    Calls Try.prog 11 #[m.v, v.val] w fun e w' => e = .returned (.int .i64 (checkOf m.q v.v)) ∧ Below w.heap.size w w' := by
  obtain ⟨q, A2, c2, A3, c3, A4, c4⟩ := m
  obtain ⟨⟨kd, re, mi, cu⟩, B1, d1, B2, d2, B3, d3⟩ := v
  dsimp only [RaceM.v, VerdictM.val] at *
  generalize hres : (Ending.returned (.int .i64 (checkOf q ⟨kd, re, mi, cu⟩))) = R
  have HRes := Lib.hid hres
  clear hres
  go_enter Try.func11, Try.ntmps11
  go_upto_region 1 with (fail)
  obtain ⟨W0, hW0, hB0, X0, V0⟩ := box2 w #[.int .i64 q.win, .int .i64 q.draw, .slice A2 q.clubs.length c2, .slice A3 q.points.length c3, .slice A4 q.games.length c4, .int .i64 q.club, .int .i64 q.place] #[.int .i64 kd, .slice B1 re.length d1, .slice B2 mi.length d2, .slice B3 cu.length d3] 25 28
  rw [hW0]
  clear hW0
  have hq0 := hq.below hB0
  have hv0 := hv.below hB0
  obtain ⟨lx, cx, fx⟩ := id X0
  obtain ⟨lv, cv, fv⟩ := id V0
  cases hvl : validB q
  · have HV := Lib.hid hvl
    clear hvl
    go_wp2_with (go_at_call 21; refine (check_no ⟨q, A2, c2, A3, c3, A4, c4⟩ W0 hq0 HV.out).mono ?_; rintro e w' ⟨rfl, hb9⟩; obtain ⟨lv, cv, fv⟩ := V0.below hb9)
    go_ret
    refine ⟨?_, balloc (bthen hB0 hb9) _⟩
    rw [← HRes.out, checkOf, if_neg (by rw [HV.out]; decide)]
    rfl
  · have HV := Lib.hid hvl
    clear hvl
    have HG := Lib.hid (good_of HV.out)
    have hmm := @run_makeMap Try.prog
    go_upto_region 4 with (go_at_call 21; refine (check_ok ⟨q, A2, c2, A3, c3, A4, c4⟩ W0 hq0 HV.out).mono ?_; rintro e w' ⟨rfl, hb9⟩; obtain ⟨lv, cv, fv⟩ := V0.below hb9)
    obtain ⟨W1, hW1, hB1, R1⟩ := box1 w' #[.int .i64 q.win, .int .i64 q.draw, .slice A2 q.clubs.length c2, .slice A3 q.points.length c3, .slice A4 q.games.length c4, .int .i64 q.club, .int .i64 q.place] 53
    rw [hW1]
    clear hW1
    clear lx cx fx lv cv fv
    have hb1 := bthen hb9 hB1
    have hm0 : (W1.alloc (.map #[] 0)).heap[W1.heap.size]? = some (.map #[] 0) := heap_alloc_new _ _
    have hbm0 : Below W1.heap.size W1 (W1.alloc (.map #[] 0)) := balloc0 _ _
    obtain ⟨M1, hu1, hm1, hbm1⟩ := map_put 1 (.func (.func 22) #[.agg #[.int .i64 q.win, .int .i64 q.draw, .slice A2 q.clubs.length c2, .slice A3 q.points.length c3, .slice A4 q.games.length c4, .int .i64 q.club, .int .i64 q.place]] #[]) hm0 rfl
    obtain ⟨M2, hu2, hm2, hbm2⟩ := map_put 2 (.func (.func 23) #[.agg #[.int .i64 q.win, .int .i64 q.draw, .slice A2 q.clubs.length c2, .slice A3 q.points.length c3, .slice A4 q.games.length c4, .int .i64 q.club, .int .i64 q.place]] #[]) hm1 rfl
    obtain ⟨M3, hu3, hm3, hbm3⟩ := map_put 3 (.func (.func 24) #[.agg #[.int .i64 q.win, .int .i64 q.draw, .slice A2 q.clubs.length c2, .slice A3 q.points.length c3, .slice A4 q.games.length c4, .int .i64 q.club, .int .i64 q.place]] #[]) hm2 rfl
    obtain ⟨M4, hu4, hm4, hbm4⟩ := map_put 4 (.func (.func 25) #[.agg #[.int .i64 q.win, .int .i64 q.draw, .slice A2 q.clubs.length c2, .slice A3 q.points.length c3, .slice A4 q.games.length c4, .int .i64 q.club, .int .i64 q.place]] #[]) hm3 rfl
    have hB1' := hbm0.trans hbm1
    have hB2' := hB1'.trans hbm2
    have hB3' := hB2'.trans hbm3
    have hB4' := hB3'.trans hbm4
    have hb4 := bthen hb1 hB4'
    have hB4w := bthen hB0 hb4
    have HM4 := Lib.hid hm4
    clear hm0 hm1 hm2 hm3 hm4 hbm0 hbm1 hbm2 hbm3 hbm4
    obtain ⟨lr, cr, fr⟩ := id R1
    obtain ⟨lr1, cr1, fr1⟩ := R1.below hB1'
    obtain ⟨lr2, cr2, fr2⟩ := R1.below hB2'
    obtain ⟨lr3, cr3, fr3⟩ := R1.below hB3'
    obtain ⟨lv, cv, fv⟩ := V0.below hb4
    go_upto_region 5 with (fail)
    clear hmm hu1 hu2 hu3 hu4 lr cr fr lr1 cr1 fr1 lr2 cr2 fr2 lr3 cr3 fr3
    have hz : ∀ w, (zeroValue 31).run Try.prog w = .ok .nilFunc w := fun w => by kernel_rfl
    have hq4 := hq.below hB4w
    have hv4 := hv.below hB4w
    have HR := Lib.hid hq4
    have HRv := Lib.hid hv4
    clear hq4 hv4
    by_cases hk1 : kd = 1
    · subst hk1
      have hlk := map_get 1 (some (0, _)) HM4.out rfl (hz _)
      simp only [Option.map_some, Option.getD_some, Option.isSome_some] at hlk
      have HC := certain_any ⟨q, A2, c2, A3, c3, A4, c4⟩ ⟨⟨1, re, mi, cu⟩, B1, d1, B2, d2, B3, d3⟩ M4 HR.out HRv.out hs HG.out
      have hsh : ∀ b, shownB q true ⟨1, re, mi, cu⟩ = b → showsB q ⟨1, re, mi, cu⟩ = b := fun b h => by rw [← h]; rfl
      replace HC := Lib.hid HC
      replace hsh := Lib.hid hsh
      cases hb : shownB q true ⟨1, re, mi, cu⟩
      all_goals
        have HB := Lib.hid hb
        clear hb
        go_wp2_with (go_at_call 22; refine HC.out.mono ?_; rw [HB.out]; rintro e w5 ⟨rfl, hb5⟩)
        go_ret
        refine ⟨?_, bthen hB4w hb5⟩
        rw [← HRes.out, checkOf, if_pos HV.out, hsh.out _ HB.out]
        rfl
    · by_cases hk2 : kd = 2
      · subst hk2
        have hlk := map_get 2 (some (1, _)) HM4.out rfl (hz _)
        simp only [Option.map_some, Option.getD_some, Option.isSome_some] at hlk
        have HC := out_any ⟨q, A2, c2, A3, c3, A4, c4⟩ ⟨⟨2, re, mi, cu⟩, B1, d1, B2, d2, B3, d3⟩ M4 HR.out HRv.out hs HG.out
        have hsh : ∀ b, shownB q false ⟨2, re, mi, cu⟩ = b → showsB q ⟨2, re, mi, cu⟩ = b := fun b h => by rw [← h]; rfl
        replace HC := Lib.hid HC
        replace hsh := Lib.hid hsh
        cases hb : shownB q false ⟨2, re, mi, cu⟩
        all_goals
          have HB := Lib.hid hb
          clear hb
          go_wp2_with (go_at_call 23; refine HC.out.mono ?_; rw [HB.out]; rintro e w5 ⟨rfl, hb5⟩)
          go_ret
          refine ⟨?_, bthen hB4w hb5⟩
          rw [← HRes.out, checkOf, if_pos HV.out, hsh.out _ HB.out]
          rfl
      · by_cases hk3 : kd = 3
        · subst hk3
          have hlk := map_get 3 (some (2, _)) HM4.out rfl (hz _)
          simp only [Option.map_some, Option.getD_some, Option.isSome_some] at hlk
          have HC := open_any ⟨q, A2, c2, A3, c3, A4, c4⟩ ⟨⟨3, re, mi, cu⟩, B1, d1, B2, d2, B3, d3⟩ M4 HR.out HRv.out hs
          have hsh : ∀ b, openB q ⟨3, re, mi, cu⟩ = b → showsB q ⟨3, re, mi, cu⟩ = b := fun b h => by rw [← h]; rfl
          replace HC := Lib.hid HC
          replace hsh := Lib.hid hsh
          cases hb : openB q ⟨3, re, mi, cu⟩
          all_goals
            have HB := Lib.hid hb
            clear hb
            go_wp2_with (go_at_call 24; refine HC.out.mono ?_; rw [HB.out]; rintro e w5 ⟨rfl, hb5⟩)
            go_ret
            refine ⟨?_, bthen hB4w hb5⟩
            rw [← HRes.out, checkOf, if_pos HV.out, hsh.out _ HB.out]
            rfl
        · by_cases hk4 : kd = 4
          · subst hk4
            have hlk := map_get 4 (some (3, _)) HM4.out rfl (hz _)
            simp only [Option.map_some, Option.getD_some, Option.isSome_some] at hlk
            have HC := unknown_any ⟨q, A2, c2, A3, c3, A4, c4⟩ ⟨⟨4, re, mi, cu⟩, B1, d1, B2, d2, B3, d3⟩ M4 hs HG.out
            have hsh : ∀ b, unknownB q ⟨4, re, mi, cu⟩ = b → showsB q ⟨4, re, mi, cu⟩ = b := fun b h => by rw [← h]; rfl
            replace HC := Lib.hid HC
            replace hsh := Lib.hid hsh
            cases hb : unknownB q ⟨4, re, mi, cu⟩
            all_goals
              have HB := Lib.hid hb
              clear hb
              go_wp2_with (go_at_call 25; refine HC.out.mono ?_; rw [HB.out]; rintro e w5 ⟨rfl, hb5⟩)
              go_ret
              refine ⟨?_, bthen hB4w hb5⟩
              rw [← HRes.out, checkOf, if_pos HV.out, hsh.out _ HB.out]
              rfl
          · have hlk := map_get kd none HM4.out (by simp [Instr.findNow, Instr.sameNow, beq_eq_false_iff_ne.2 hk1, beq_eq_false_iff_ne.2 hk2, beq_eq_false_iff_ne.2 hk3, beq_eq_false_iff_ne.2 hk4]) (hz _)
            simp only [Option.map_none, Option.getD_none, Option.isSome_none] at hlk
            have hsh : showsB q ⟨kd, re, mi, cu⟩ = false := by unfold showsB; rw [if_neg hk1, if_neg hk2, if_neg hk3, if_neg hk4]
            replace hsh := Lib.hid hsh
            clear hk1 hk2 hk3 hk4
            go_wp2
            go_ret
            refine ⟨?_, hB4w⟩
            rw [← HRes.out, checkOf, if_pos HV.out, hsh.out]
            rfl
end Go.Proofs.Ytfmekjpmjefpmaa

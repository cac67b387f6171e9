/- ref.cuts, walked. -/
import Derived.Test.YtfmekjpmjefpmaaRg
import Derived.Test.YtfmekjpmjefpmaaWy
set_option linter.unusedSimpArgs false
set_option linter.unusedVariables false
namespace Go.Proofs.Ytfmekjpmjefpmaa
open Go.RowKit

theorem Row.cut_in {w : World} {A : Option Addr} {xs : List Cut} (h : Row Kd.cut w A xs) {i : Nat} (hi : i < xs.length) :
    ∃ b o A0 c0 A1 c1 A2 c2, A = some ⟨b, o, none⟩ ∧ b < w.heap.size ∧ w.cell? ⟨b, o + i * 3, none⟩ = some (.slice A0 (rdC xs i).free.length c0) ∧ w.cell? ⟨b, o + i * 3 + 1, none⟩ = some (.slice A1 (rdC xs i).clubs.length c1) ∧ w.cell? ⟨b, o + i * 3 + 2, none⟩ = some (.slice A2 (rdC xs i).games.length c2) ∧
      CutIn w ⟨rdC xs i, A0, c0, A1, c1, A2, c2⟩ := by
  obtain ⟨b, o, rfl, hlt, hc⟩ := h.2 (by intro e; rw [e] at hi; simp at hi)
  obtain ⟨cs, ⟨s1, s2, rfl, ⟨A0, c0, rfl, hl0, h0⟩, ⟨t1, t2, rfl, ⟨A1, c1, rfl, hl1, h1⟩, ⟨A2, c2, rfl, hl2, h2⟩⟩⟩, hcs⟩ := hc i _ (rdC_get hi)
  refine ⟨b, o, A0, c0, A1, c1, A2, c2, rfl, hlt, ?_, ?_, ?_, h0, h1, h2⟩
  · have := hcs 0 _ rfl
    simpa [Kd.cut, Kd.iso, Kd.pair, Kd.slice, Kd.int, Kd.one1] using this
  · have := hcs 1 _ rfl
    simpa [Kd.cut, Kd.iso, Kd.pair, Kd.slice, Kd.int, Kd.one1, Nat.add_assoc] using this
  · have := hcs 2 _ rfl
    simpa [Kd.cut, Kd.iso, Kd.pair, Kd.slice, Kd.int, Kd.one1, Nat.add_assoc] using this

theorem cutsB_len {q : Race} {ce : Bool} {L : List Cut} {s : Nat} (hs : size q ce = s) (h : (setsOf q s).length ≠ L.length) : cutsB q ce L = false := by
  unfold cutsB
  have hsz : (size q ce).toNat = s := by omega
  rw [hsz]
  rcases Nat.lt_or_ge (setsOf q s).length L.length with h' | h'
  · rw [show decide (L.length ≤ (setsOf q s).length) = false from decide_eq_false (by omega), Bool.and_false]
  · rw [decide_eq_false (fun hh => ?_), Bool.false_and]
    have := hh L.length (by omega)
    simp [cutOk] at this
theorem cutsB_all {q : Race} {ce : Bool} {L : List Cut} {s : Nat} (hs : size q ce = s) (h : (setsOf q s).length = L.length) (ha : ∀ i, i < L.length → cutOk q ce L i = true) : cutsB q ce L = true := by
  unfold cutsB
  have hsz : (size q ce).toNat = s := by omega
  rw [hsz, show decide (L.length ≤ (setsOf q s).length) = true from decide_eq_true (by omega), Bool.and_true]
  exact decide_eq_true fun i hi => ha i (by omega)
theorem cutsB_bad {q : Race} {ce : Bool} {L : List Cut} {s i : Nat} (hs : size q ce = s) (h : (setsOf q s).length = L.length) (hi : i < L.length) (hb : cutOk q ce L i = false) : cutsB q ce L = false := by
  unfold cutsB
  have hsz : (size q ce).toNat = s := by omega
  rw [hsz, decide_eq_false (fun hh => ?_), Bool.false_and]
  have := hh i (by omega)
  rw [hb] at this
  cases this
theorem cutOk_eq {q : Race} {ce : Bool} {L : List Cut} {s i : Nat} (hs : size q ce = s) (hi : i < L.length) (hi' : i < (setsOf q s).length) {x y : Bool} (hx : decide ((rdC L i).free = (setsOf q s)[i]) = x) (hy : fits q ce (rdC L i) = y) : cutOk q ce L i = !(!x || !y) := by
  have hsz : (size q ce).toNat = s := by omega
  rw [cutOk, decide_eq_true hi, Bool.true_and, hsz, List.getD_eq_getElem?_getD, List.getElem?_eq_getElem hi', Option.getD_some, hx, hy]
  cases x <;> cases y <;> rfl

set_option maxHeartbeats 8000000 in
set_option maxRecDepth 100000 in
theorem rcuts_any (m : RaceM) (ce : Bool) (B : Option Addr) (d : Nat) (L : List Cut) (w : World) (hq : RaceIn w m) (hL : Row Kd.cut w B L) (hg : Good m.q) (h6 : m.q.clubs.length ≤ 6) :
    Calls Try.prog 45 #[m.v, .bool ce, .slice B L.length d] w fun e w' => e = .returned (.bool (cutsB m.q ce L)) ∧ Below w.heap.size w w' := by
  obtain ⟨q, A2, c2, A3, c3, A4, c4⟩ := m
  dsimp only [RaceM.v] at *
  have hLm := hL.1
  have hp0 := hg.p0
  have hp1 : q.place ≤ 24 := by have := hg.p1; have := hg.n1; omega
  have HG := Lib.hid hg
  clear hg
  generalize hres : (Ending.returned (.bool (cutsB q ce L))) = R
  have HRes := Lib.hid hres
  clear hres
  obtain ⟨s, hs, hs24⟩ : ∃ s : Nat, size q ce = s ∧ s ≤ 24 := ⟨(size q ce).toNat, by unfold size; split <;> omega, by unfold size; split <;> omega⟩
  have HSz := Lib.hid hs
  have hsets := fun w => rsets_any ⟨q, A2, c2, A3, c3, A4, c4⟩ h6 s 0 w (by omega) hs24
  dsimp only [RaceM.v] at hsets
  rw [← hs, setsGe_zero] at hsets
  have h64 := setsGe_len q s 0 h6
  rw [setsGe_zero] at h64
  generalize hT : setsOf q s = T at *
  have HT := Lib.hid hT
  clear hT hs
  cases ce
  · have HSets := Lib.hid hsets
    clear hsets
    have hw1 : IntKind.i64.wrap (q.place - 1) = q.place - 1 := IntWalk.i64_in _ (by omega)
    go_enter Try.func45, Try.ntmps45
    go_upto_region 1 with (fail)
    obtain ⟨W0, hW0, hB0, X0⟩ := box1 w #[.int .i64 q.win, .int .i64 q.draw, .slice A2 q.clubs.length c2, .slice A3 q.points.length c3, .slice A4 q.games.length c4, .int .i64 q.club, .int .i64 q.place] 25
    rw [hW0]
    clear hW0
    have hq0 := hq.below hB0
    have hL0 := hL.below hB0
    obtain ⟨lx, cx, fx⟩ := id X0
    go_upto_region 5 with (go_at_call 73; refine (HSets.out _).mono ?_; rintro e w1 ⟨A, c, rfl, hO, hb1⟩)
    have HR := hO.rows (by omega)
    have HB1 := bthen hB0 hb1
    by_cases hlen : (T.length : Int) = L.length
    · have h1 : ((T.length : Int) != L.length) = false := by simpa using hlen
      have hlen' : T.length = L.length := by omega
      have HLe := Lib.hid hlen'
      clear hlen
      go_wp2
      clear lx cx fx
      have hb1z := hb1.size
      go_loopw [9] (fun v9 wr => ∃ i : Nat, i ≤ L.length ∧ v9 = .int .i64 i ∧ Hid (∀ j, j < i → cutOk q false L j = true) ∧ Below w1.heap.size w1 wr) (fun i _ => L.length - (intOf i).toNat)
      case atStart => exact ⟨0, by omega, rfl, fun j hj => by omega, Below.refl _ _⟩
      case round =>
        obtain ⟨n, hn, rfl, HN, HBr⟩ := hrel
        have HB := bthen hb1 HBr
        obtain ⟨lx, cx, fx⟩ := X0.below HB
        by_cases hlt : n < L.length
        · have hltT : n < T.length := by omega
          obtain ⟨b, o, A0, c0, A1, c1, A5, c5, e, hb, h0, h1', h2', hcin⟩ := (hL0.below HB).cut_in hlt
          subst e
          obtain ⟨g, eA, hg1, hg2, hrows⟩ := (HR.below HBr).2.2 (by intro e; rw [e] at hltT; simp at hltT)
          obtain ⟨C, f, hcell, hf, hrow, hblk⟩ := hrows n _ (List.getElem?_eq_getElem hltT)
          subst eA
          have hgw : g < wr.heap.size := Nat.lt_of_lt_of_le hg2 HBr.size
          have hq1 := hq0.below HB
          have HOk := fun x y => cutOk_eq (x := x) (y := y) HSz.out hlt (by rw [HT.out]; exact hltT)
          simp only [HT.out] at HOk
          replace HOk := Lib.hid HOk
          generalize hl : T[n] = l at *
          clear hrows hblk
          generalize hk : rdC L n = k at *
          obtain ⟨fr, cl, gs⟩ := k
          dsimp only at h0 h1' h2' HOk
          go_upto_region 10 with (fail)
          refine Seg.regionB (by kernel_rfl) (by kernel_rfl) ?_
          repeat (first
            | (refine' Seg.pick_or (b := _) (x := _) (c := _) (y := _) rfl rfl rfl rfl ?_; simp only [Act.put, List.setIfInBounds_toArray, List.set_cons_zero, List.set_cons_succ])
            | (refine' Seg.pick_and (b := _) (x := _) (c := _) (y := _) rfl rfl rfl rfl ?_; simp only [Act.put, List.setIfInBounds_toArray, List.set_cons_zero, List.set_cons_succ])
            | (refine' Seg.val (v := _) rfl (fun w' hw => ?_) ?_; rotate_left 1; (obtain ⟨hbc, _⟩ := bcell hw; go_simp; rfl); simp only [Act.put, List.setIfInBounds_toArray, List.set_cons_zero, List.set_cons_succ])
            | (refine' Seg.skip ?_ ?_; (focus (first | (rw [Seg.wanted1 rfl rfl]; simp; done) | (rw [Seg.wanted2 rfl rfl]; simp; done))); simp only [Act.put, List.setIfInBounds_toArray, List.set_cons_zero, List.set_cons_succ])
            | (refine' Seg.pick_or_if (b := _) (x := _) (G := _) (c := _) (y := _) (by first | exact Seg.wanted1 rfl rfl | exact Seg.wanted2 rfl rfl) rfl rfl rfl ?_; simp only [Act.put, List.setIfInBounds_toArray, List.set_cons_zero, List.set_cons_succ])
            | (refine' Seg.pick_and_if (b := _) (x := _) (G := _) (c := _) (y := _) (by first | exact Seg.wanted1 rfl rfl | exact Seg.wanted2 rfl rfl) rfl rfl rfl ?_; simp only [Act.put, List.setIfInBounds_toArray, List.set_cons_zero, List.set_cons_succ])
            | (refine' Seg.val_if (v := _) (G := _) (by first | exact Seg.wanted1 rfl rfl | exact Seg.wanted2 rfl rfl) (fun hb w' hw => ?_) ?_; rotate_left 1; (simp only [Bool.and_eq_true, beq_iff_eq] at hb; obtain ⟨hbc, _⟩ := bcell hw; go_simp; rfl); simp only [Act.put, List.setIfInBounds_toArray, List.set_cons_zero, List.set_cons_succ]))
          refine' Seg.call (v := _) (f := _) (args := _) rfl (fun w' => ?_) (fun w' hw => callB hw (rsame_any A0 c0 fr C f l w' (hcin.h0.below hw) (hrow.below hw))) ?_
          · go_simp
          simp only [Act.put, List.setIfInBounds_toArray, List.set_cons_zero, List.set_cons_succ]
          repeat (first
            | (refine' Seg.pick_or (b := _) (x := _) (c := _) (y := _) rfl rfl rfl rfl ?_; simp only [Act.put, List.setIfInBounds_toArray, List.set_cons_zero, List.set_cons_succ])
            | (refine' Seg.pick_and (b := _) (x := _) (c := _) (y := _) rfl rfl rfl rfl ?_; simp only [Act.put, List.setIfInBounds_toArray, List.set_cons_zero, List.set_cons_succ])
            | (refine' Seg.val (v := _) rfl (fun w' hw => ?_) ?_; rotate_left 1; (obtain ⟨hbc, _⟩ := bcell hw; go_simp; rfl); simp only [Act.put, List.setIfInBounds_toArray, List.set_cons_zero, List.set_cons_succ])
            | (refine' Seg.skip ?_ ?_; (focus (first | (rw [Seg.wanted1 rfl rfl]; simp; done) | (rw [Seg.wanted2 rfl rfl]; simp; done))); simp only [Act.put, List.setIfInBounds_toArray, List.set_cons_zero, List.set_cons_succ])
            | (refine' Seg.pick_or_if (b := _) (x := _) (G := _) (c := _) (y := _) (by first | exact Seg.wanted1 rfl rfl | exact Seg.wanted2 rfl rfl) rfl rfl rfl ?_; simp only [Act.put, List.setIfInBounds_toArray, List.set_cons_zero, List.set_cons_succ])
            | (refine' Seg.pick_and_if (b := _) (x := _) (G := _) (c := _) (y := _) (by first | exact Seg.wanted1 rfl rfl | exact Seg.wanted2 rfl rfl) rfl rfl rfl ?_; simp only [Act.put, List.setIfInBounds_toArray, List.set_cons_zero, List.set_cons_succ])
            | (refine' Seg.val_if (v := _) (G := _) (by first | exact Seg.wanted1 rfl rfl | exact Seg.wanted2 rfl rfl) (fun hb w' hw => ?_) ?_; rotate_left 1; (simp only [Bool.and_eq_true, beq_iff_eq] at hb; obtain ⟨hbc, _⟩ := bcell hw; go_simp; rfl); simp only [Act.put, List.setIfInBounds_toArray, List.set_cons_zero, List.set_cons_succ]))
          refine' Seg.call_if (v := _) (G := _) (f := _) (args := _) (by first | exact Seg.wanted1 rfl rfl | exact Seg.wanted2 rfl rfl) (fun hb w' => ?_) (fun hb w' hw => callB hw (rfits_any ⟨q, A2, c2, A3, c3, A4, c4⟩ false ⟨⟨fr, cl, gs⟩, A0, c0, A1, c1, A5, c5⟩ w' (hq1.below hw) (hcin.below hw) HG.out)) ?_
          · simp only [Bool.and_eq_true, beq_iff_eq] at hb
            go_simp
          simp only [Act.put, List.setIfInBounds_toArray, List.set_cons_zero, List.set_cons_succ]
          repeat (first
            | (refine' Seg.pick_or (b := _) (x := _) (c := _) (y := _) rfl rfl rfl rfl ?_; simp only [Act.put, List.setIfInBounds_toArray, List.set_cons_zero, List.set_cons_succ])
            | (refine' Seg.pick_and (b := _) (x := _) (c := _) (y := _) rfl rfl rfl rfl ?_; simp only [Act.put, List.setIfInBounds_toArray, List.set_cons_zero, List.set_cons_succ])
            | (refine' Seg.val (v := _) rfl (fun w' hw => ?_) ?_; rotate_left 1; (obtain ⟨hbc, _⟩ := bcell hw; go_simp; rfl); simp only [Act.put, List.setIfInBounds_toArray, List.set_cons_zero, List.set_cons_succ])
            | (refine' Seg.skip ?_ ?_; (focus (first | (rw [Seg.wanted1 rfl rfl]; simp; done) | (rw [Seg.wanted2 rfl rfl]; simp; done))); simp only [Act.put, List.setIfInBounds_toArray, List.set_cons_zero, List.set_cons_succ])
            | (refine' Seg.pick_or_if (b := _) (x := _) (G := _) (c := _) (y := _) (by first | exact Seg.wanted1 rfl rfl | exact Seg.wanted2 rfl rfl) rfl rfl rfl ?_; simp only [Act.put, List.setIfInBounds_toArray, List.set_cons_zero, List.set_cons_succ])
            | (refine' Seg.pick_and_if (b := _) (x := _) (G := _) (c := _) (y := _) (by first | exact Seg.wanted1 rfl rfl | exact Seg.wanted2 rfl rfl) rfl rfl rfl ?_; simp only [Act.put, List.setIfInBounds_toArray, List.set_cons_zero, List.set_cons_succ])
            | (refine' Seg.val_if (v := _) (G := _) (by first | exact Seg.wanted1 rfl rfl | exact Seg.wanted2 rfl rfl) (fun hb w' hw => ?_) ?_; rotate_left 1; (simp only [Bool.and_eq_true, beq_iff_eq] at hb; obtain ⟨hbc, _⟩ := bcell hw; go_simp; rfl); simp only [Act.put, List.setIfInBounds_toArray, List.set_cons_zero, List.set_cons_succ]))
          intro w3 hw3
          have HB3 := bthen HBr hw3
          clear lx cx fx h0 h1' h2' hcell
          repeat ((conv in Seg.opt _ _ => skip); generalize Seg.opt _ _ = u)
          generalize hcd : (_ || !fits q false _) = cd
          have HX : Hid (cutOk q false L n = !cd) := Lib.hid (by rw [HOk.out _ _ rfl rfl, hcd])
          clear hcd
          cases cd
          · go_wp2
            go_roundw
            case rel =>
              refine ⟨n + 1, by omega, by go_num, Lib.hid (fun j hj => ?_), HB3⟩
              rcases Nat.lt_or_ge j n with h' | h'
              · exact HN.out j h'
              · obtain rfl : j = n := by omega
                rw [HX.out]; rfl
            case measure => simp [intOf]; omega
          · go_wp2
            go_ret
            refine ⟨?_, bthen HB1 HB3⟩
            rw [← HRes.out, cutsB_bad HSz.out (by rw [HT.out]; exact HLe.out) hlt (by rw [HX.out]; rfl)]
            rfl
        · obtain rfl : n = L.length := by omega
          go_wp2
          go_ret
          refine ⟨?_, bthen HB1 HBr⟩
          rw [← HRes.out, cutsB_all HSz.out (by rw [HT.out]; exact HLe.out) HN.out]
          rfl
    · have h1 : ((T.length : Int) != L.length) = true := by simpa using hlen
      have hlen' : T.length ≠ L.length := by omega
      have HLe := Lib.hid hlen'
      clear hlen
      go_wp2
      go_ret
      refine ⟨?_, HB1⟩
      rw [← HRes.out, cutsB_len HSz.out (by rw [HT.out]; exact HLe.out)]
      rfl
  · have HSets := Lib.hid hsets
    clear hsets
    have hw1 : IntKind.i64.wrap (q.place - 1) = q.place - 1 := IntWalk.i64_in _ (by omega)
    go_enter Try.func45, Try.ntmps45
    go_upto_region 1 with (fail)
    obtain ⟨W0, hW0, hB0, X0⟩ := box1 w #[.int .i64 q.win, .int .i64 q.draw, .slice A2 q.clubs.length c2, .slice A3 q.points.length c3, .slice A4 q.games.length c4, .int .i64 q.club, .int .i64 q.place] 25
    rw [hW0]
    clear hW0
    have hq0 := hq.below hB0
    have hL0 := hL.below hB0
    obtain ⟨lx, cx, fx⟩ := id X0
    go_upto_region 5 with (go_at_call 73; refine (HSets.out _).mono ?_; rintro e w1 ⟨A, c, rfl, hO, hb1⟩)
    have HR := hO.rows (by omega)
    have HB1 := bthen hB0 hb1
    by_cases hlen : (T.length : Int) = L.length
    · have h1 : ((T.length : Int) != L.length) = false := by simpa using hlen
      have hlen' : T.length = L.length := by omega
      have HLe := Lib.hid hlen'
      clear hlen
      go_wp2
      clear lx cx fx
      have hb1z := hb1.size
      go_loopw [9] (fun v9 wr => ∃ i : Nat, i ≤ L.length ∧ v9 = .int .i64 i ∧ Hid (∀ j, j < i → cutOk q true L j = true) ∧ Below w1.heap.size w1 wr) (fun i _ => L.length - (intOf i).toNat)
      case atStart => exact ⟨0, by omega, rfl, fun j hj => by omega, Below.refl _ _⟩
      case round =>
        obtain ⟨n, hn, rfl, HN, HBr⟩ := hrel
        have HB := bthen hb1 HBr
        obtain ⟨lx, cx, fx⟩ := X0.below HB
        by_cases hlt : n < L.length
        · have hltT : n < T.length := by omega
          obtain ⟨b, o, A0, c0, A1, c1, A5, c5, e, hb, h0, h1', h2', hcin⟩ := (hL0.below HB).cut_in hlt
          subst e
          obtain ⟨g, eA, hg1, hg2, hrows⟩ := (HR.below HBr).2.2 (by intro e; rw [e] at hltT; simp at hltT)
          obtain ⟨C, f, hcell, hf, hrow, hblk⟩ := hrows n _ (List.getElem?_eq_getElem hltT)
          subst eA
          have hgw : g < wr.heap.size := Nat.lt_of_lt_of_le hg2 HBr.size
          have hq1 := hq0.below HB
          have HOk := fun x y => cutOk_eq (x := x) (y := y) HSz.out hlt (by rw [HT.out]; exact hltT)
          simp only [HT.out] at HOk
          replace HOk := Lib.hid HOk
          generalize hl : T[n] = l at *
          clear hrows hblk
          generalize hk : rdC L n = k at *
          obtain ⟨fr, cl, gs⟩ := k
          dsimp only at h0 h1' h2' HOk
          go_upto_region 10 with (fail)
          refine Seg.regionB (by kernel_rfl) (by kernel_rfl) ?_
          repeat (first
            | (refine' Seg.pick_or (b := _) (x := _) (c := _) (y := _) rfl rfl rfl rfl ?_; simp only [Act.put, List.setIfInBounds_toArray, List.set_cons_zero, List.set_cons_succ])
            | (refine' Seg.pick_and (b := _) (x := _) (c := _) (y := _) rfl rfl rfl rfl ?_; simp only [Act.put, List.setIfInBounds_toArray, List.set_cons_zero, List.set_cons_succ])
            | (refine' Seg.val (v := _) rfl (fun w' hw => ?_) ?_; rotate_left 1; (obtain ⟨hbc, _⟩ := bcell hw; go_simp; rfl); simp only [Act.put, List.setIfInBounds_toArray, List.set_cons_zero, List.set_cons_succ])
            | (refine' Seg.skip ?_ ?_; (focus (first | (rw [Seg.wanted1 rfl rfl]; simp; done) | (rw [Seg.wanted2 rfl rfl]; simp; done))); simp only [Act.put, List.setIfInBounds_toArray, List.set_cons_zero, List.set_cons_succ])
            | (refine' Seg.pick_or_if (b := _) (x := _) (G := _) (c := _) (y := _) (by first | exact Seg.wanted1 rfl rfl | exact Seg.wanted2 rfl rfl) rfl rfl rfl ?_; simp only [Act.put, List.setIfInBounds_toArray, List.set_cons_zero, List.set_cons_succ])
            | (refine' Seg.pick_and_if (b := _) (x := _) (G := _) (c := _) (y := _) (by first | exact Seg.wanted1 rfl rfl | exact Seg.wanted2 rfl rfl) rfl rfl rfl ?_; simp only [Act.put, List.setIfInBounds_toArray, List.set_cons_zero, List.set_cons_succ])
            | (refine' Seg.val_if (v := _) (G := _) (by first | exact Seg.wanted1 rfl rfl | exact Seg.wanted2 rfl rfl) (fun hb w' hw => ?_) ?_; rotate_left 1; (simp only [Bool.and_eq_true, beq_iff_eq] at hb; obtain ⟨hbc, _⟩ := bcell hw; go_simp; rfl); simp only [Act.put, List.setIfInBounds_toArray, List.set_cons_zero, List.set_cons_succ]))
          refine' Seg.call (v := _) (f := _) (args := _) rfl (fun w' => ?_) (fun w' hw => callB hw (rsame_any A0 c0 fr C f l w' (hcin.h0.below hw) (hrow.below hw))) ?_
          · go_simp
          simp only [Act.put, List.setIfInBounds_toArray, List.set_cons_zero, List.set_cons_succ]
          repeat (first
            | (refine' Seg.pick_or (b := _) (x := _) (c := _) (y := _) rfl rfl rfl rfl ?_; simp only [Act.put, List.setIfInBounds_toArray, List.set_cons_zero, List.set_cons_succ])
            | (refine' Seg.pick_and (b := _) (x := _) (c := _) (y := _) rfl rfl rfl rfl ?_; simp only [Act.put, List.setIfInBounds_toArray, List.set_cons_zero, List.set_cons_succ])
            | (refine' Seg.val (v := _) rfl (fun w' hw => ?_) ?_; rotate_left 1; (obtain ⟨hbc, _⟩ := bcell hw; go_simp; rfl); simp only [Act.put, List.setIfInBounds_toArray, List.set_cons_zero, List.set_cons_succ])
            | (refine' Seg.skip ?_ ?_; (focus (first | (rw [Seg.wanted1 rfl rfl]; simp; done) | (rw [Seg.wanted2 rfl rfl]; simp; done))); simp only [Act.put, List.setIfInBounds_toArray, List.set_cons_zero, List.set_cons_succ])
            | (refine' Seg.pick_or_if (b := _) (x := _) (G := _) (c := _) (y := _) (by first | exact Seg.wanted1 rfl rfl | exact Seg.wanted2 rfl rfl) rfl rfl rfl ?_; simp only [Act.put, List.setIfInBounds_toArray, List.set_cons_zero, List.set_cons_succ])
            | (refine' Seg.pick_and_if (b := _) (x := _) (G := _) (c := _) (y := _) (by first | exact Seg.wanted1 rfl rfl | exact Seg.wanted2 rfl rfl) rfl rfl rfl ?_; simp only [Act.put, List.setIfInBounds_toArray, List.set_cons_zero, List.set_cons_succ])
            | (refine' Seg.val_if (v := _) (G := _) (by first | exact Seg.wanted1 rfl rfl | exact Seg.wanted2 rfl rfl) (fun hb w' hw => ?_) ?_; rotate_left 1; (simp only [Bool.and_eq_true, beq_iff_eq] at hb; obtain ⟨hbc, _⟩ := bcell hw; go_simp; rfl); simp only [Act.put, List.setIfInBounds_toArray, List.set_cons_zero, List.set_cons_succ]))
          refine' Seg.call_if (v := _) (G := _) (f := _) (args := _) (by first | exact Seg.wanted1 rfl rfl | exact Seg.wanted2 rfl rfl) (fun hb w' => ?_) (fun hb w' hw => callB hw (rfits_any ⟨q, A2, c2, A3, c3, A4, c4⟩ true ⟨⟨fr, cl, gs⟩, A0, c0, A1, c1, A5, c5⟩ w' (hq1.below hw) (hcin.below hw) HG.out)) ?_
          · simp only [Bool.and_eq_true, beq_iff_eq] at hb
            go_simp
          simp only [Act.put, List.setIfInBounds_toArray, List.set_cons_zero, List.set_cons_succ]
          repeat (first
            | (refine' Seg.pick_or (b := _) (x := _) (c := _) (y := _) rfl rfl rfl rfl ?_; simp only [Act.put, List.setIfInBounds_toArray, List.set_cons_zero, List.set_cons_succ])
            | (refine' Seg.pick_and (b := _) (x := _) (c := _) (y := _) rfl rfl rfl rfl ?_; simp only [Act.put, List.setIfInBounds_toArray, List.set_cons_zero, List.set_cons_succ])
            | (refine' Seg.val (v := _) rfl (fun w' hw => ?_) ?_; rotate_left 1; (obtain ⟨hbc, _⟩ := bcell hw; go_simp; rfl); simp only [Act.put, List.setIfInBounds_toArray, List.set_cons_zero, List.set_cons_succ])
            | (refine' Seg.skip ?_ ?_; (focus (first | (rw [Seg.wanted1 rfl rfl]; simp; done) | (rw [Seg.wanted2 rfl rfl]; simp; done))); simp only [Act.put, List.setIfInBounds_toArray, List.set_cons_zero, List.set_cons_succ])
            | (refine' Seg.pick_or_if (b := _) (x := _) (G := _) (c := _) (y := _) (by first | exact Seg.wanted1 rfl rfl | exact Seg.wanted2 rfl rfl) rfl rfl rfl ?_; simp only [Act.put, List.setIfInBounds_toArray, List.set_cons_zero, List.set_cons_succ])
            | (refine' Seg.pick_and_if (b := _) (x := _) (G := _) (c := _) (y := _) (by first | exact Seg.wanted1 rfl rfl | exact Seg.wanted2 rfl rfl) rfl rfl rfl ?_; simp only [Act.put, List.setIfInBounds_toArray, List.set_cons_zero, List.set_cons_succ])
            | (refine' Seg.val_if (v := _) (G := _) (by first | exact Seg.wanted1 rfl rfl | exact Seg.wanted2 rfl rfl) (fun hb w' hw => ?_) ?_; rotate_left 1; (simp only [Bool.and_eq_true, beq_iff_eq] at hb; obtain ⟨hbc, _⟩ := bcell hw; go_simp; rfl); simp only [Act.put, List.setIfInBounds_toArray, List.set_cons_zero, List.set_cons_succ]))
          intro w3 hw3
          have HB3 := bthen HBr hw3
          clear lx cx fx h0 h1' h2' hcell
          repeat ((conv in Seg.opt _ _ => skip); generalize Seg.opt _ _ = u)
          generalize hcd : (_ || !fits q true _) = cd
          have HX : Hid (cutOk q true L n = !cd) := Lib.hid (by rw [HOk.out _ _ rfl rfl, hcd])
          clear hcd
          cases cd
          · go_wp2
            go_roundw
            case rel =>
              refine ⟨n + 1, by omega, by go_num, Lib.hid (fun j hj => ?_), HB3⟩
              rcases Nat.lt_or_ge j n with h' | h'
              · exact HN.out j h'
              · obtain rfl : j = n := by omega
                rw [HX.out]; rfl
            case measure => simp [intOf]; omega
          · go_wp2
            go_ret
            refine ⟨?_, bthen HB1 HB3⟩
            rw [← HRes.out, cutsB_bad HSz.out (by rw [HT.out]; exact HLe.out) hlt (by rw [HX.out]; rfl)]
            rfl
        · obtain rfl : n = L.length := by omega
          go_wp2
          go_ret
          refine ⟨?_, bthen HB1 HBr⟩
          rw [← HRes.out, cutsB_all HSz.out (by rw [HT.out]; exact HLe.out) HN.out]
          rfl
    · have h1 : ((T.length : Int) != L.length) = true := by simpa using hlen
      have hlen' : T.length ≠ L.length := by omega
      have HLe := Lib.hid hlen'
      clear hlen
      go_wp2
      go_ret
      refine ⟨?_, HB1⟩
      rw [← HRes.out, cutsB_len HSz.out (by rw [HT.out]; exact HLe.out)]
      rfl
end Go.Proofs.Ytfmekjpmjefpmaa

/- completion, Reached, Missed, walked. -/
import Derived.Test.YtfmekjpmjefpmaaWf
set_option linter.unusedSimpArgs false
set_option linter.unusedVariables false
namespace Go.Proofs.Ytfmekjpmjefpmaa
open Go.RowKit

def badOut (o : Int) : Bool := decide (o < 1) || decide (3 < o)
theorem any_rd {l : List Int} {p : Int → Bool} : l.any p = true ↔ ∃ i, i < l.length ∧ p (rd l i) = true := by
  rw [List.any_eq_true]
  constructor
  · rintro ⟨x, hx, hp⟩
    obtain ⟨i, hi, rfl⟩ := mem_rd.1 hx
    exact ⟨i, hi, hp⟩
  · rintro ⟨i, hi, hp⟩
    exact ⟨_, mem_rd.2 ⟨i, hi, rfl⟩, hp⟩
theorem badOut_any (x : Int) (w : World) : Calls Try.prog 49 #[.int .i64 x] w fun e w' => e = .returned (.bool (badOut x)) ∧ w = w' := by
  go_enter Try.func49, Try.ntmps49
  go_wp2
  all_goals
    go_ret
    refine ⟨ret_bool ?_, rfl⟩
    simp_all [badOut] <;> omega

def IdxPostI (l : List Int) (w : World) (e : Ending) (w' : World) : Prop := ∃ r : Int, (0 ≤ r ↔ l.any badOut = true) ∧ e = .returned (.int .i64 r) ∧ w = w'
set_option maxHeartbeats 800000 in
theorem indexI_any (A : Option Addr) (c : Nat) (l : List Int) (w : World) (hl : Row (Kd.int .i64) w A l) :
    Calls Try.prog 76 #[.slice A l.length c, .func (.func 49) #[] #[]] w (IdxPostI l w) := by
  have hm := hl.1
  go_enter Try.func76, Try.ntmps76
  go_wp2
  go_loopw [8] (fun i wr => ∃ k : Nat, k ≤ l.length ∧ i = .int .i64 k ∧ Hid (∀ j, j < k → badOut (rd l j) = false) ∧ w = wr) (fun i _ => l.length - (intOf i).toNat)
  case atStart => exact ⟨0, by omega, rfl, fun j hj => by omega, rfl⟩
  case round =>
    obtain ⟨k, hk, rfl, HN, rfl⟩ := hrel
    by_cases hlt : k < l.length
    · obtain ⟨b4, o4, rfl, hb4, hel, wl⟩ := hl.int_at hlt
      cases hx : badOut (rd l k)
      all_goals
        replace hx := Lib.hid hx
        go_wp2_with (go_at_call 49; refine (badOut_any (rd l k) _).mono ?_; rintro e w' ⟨rfl, rfl⟩; rw [hx.out])
      · go_roundw
        case rel =>
          refine ⟨k + 1, by omega, by go_num, fun j hj => ?_, trivial⟩
          rcases Nat.lt_or_ge j k with h' | h'
          · exact HN.out j h'
          · obtain rfl : j = k := by omega
            exact hx.out
        case measure => simp [intOf]; omega
      · go_ret
        exact ⟨_, ⟨fun _ => any_rd.2 ⟨k, hlt, hx.out⟩, fun _ => by omega⟩, rfl, rfl⟩
    · go_wp2
      go_ret
      obtain rfl : k = l.length := by omega
      refine ⟨-1, ⟨fun h => by omega, fun h => ?_⟩, rfl, rfl⟩
      obtain ⟨i, hi, h⟩ := any_rd.1 h
      rw [HN.out i hi] at h
      cases h

set_option maxHeartbeats 800000 in
theorem containsI_any (A : Option Addr) (c : Nat) (l : List Int) (w : World) (hl : Row (Kd.int .i64) w A l) :
    Calls Try.prog 48 #[.slice A l.length c, .func (.func 49) #[] #[]] w fun e w' => e = .returned (.bool (l.any badOut)) ∧ w = w' := by
  go_enter Try.func48, Try.ntmps48
  go_wp2_with (go_at_call 76; refine (indexI_any A c l _ hl).mono ?_; rintro e w' ⟨r, hr, rfl, rfl⟩; have HR := Lib.hid hr; clear hr)
  go_ret
  exact ⟨ret_bool (by rw [Bool.eq_iff_iff, ← HR.out]; simp), rfl⟩

theorem Box.belowN {w w1 : World} {b N : Nat} {C : Array Value} (h : Box w b C) (hB : Below N w w1) (hb : b < N) : Box w1 b C :=
  ⟨Nat.lt_of_lt_of_le h.lt hB.size, fun j => (hB.cell (p := ⟨b, j, none⟩) hb).trans (h.cell j), fun j => (hB.frozen (p := ⟨b, j, none⟩) hb).trans (h.free j)⟩
theorem res27 {w : World} {t : Array Value} {b : Nat} {x : Int} {C : Array Value} (h : Box w b C) (hC : C.size = 7) (h2 : t.getD 4 undef = .pointer (some ⟨b, 0, none⟩)) (h3 : t.getD 5 undef = .int .i64 x) :
    (results Try.f27 t).run Try.prog w = .ok (.tuple #[.agg C, .int .i64 x]) w :=
  results_cellv rfl h2 h3 (h.load Try.underlying53 rfl (by rw [hC]; kernel_rfl))

def badArg (q : Race) (o : List Int) : Bool := ((o.length : Int) != q.games.length) || o.any badOut
def complOf (q : Race) (o : List Int) : Int := if validB q = true then (if badArg q o = true then 1 else 0) else 280
set_option maxHeartbeats 4000000 in
set_option maxRecDepth 100000 in
theorem completion_any (m : RaceM) (B : Option Addr) (d : Nat) (o : List Int) (w : World) (hq : RaceIn w m) (ho : Row (Kd.int .i64) w B o) :
    Calls Try.prog 27 #[m.v, .slice B o.length d] w fun e w' => e = .returned (.tuple #[if validB m.q = true then m.v else zeroRace, .int .i64 (complOf m.q o)]) ∧ Below w.heap.size w w' := by
  obtain ⟨q, A2, c2, A3, c3, A4, c4⟩ := m
  dsimp only [RaceM.v] at *
  generalize hres : (Ending.returned (.tuple #[if validB q = true then _ else _, _])) = R
  have HRes := Lib.hid hres
  clear hres
  go_enter Try.func27, Try.ntmps27
  go_upto_region 1 with (fail)
  obtain ⟨W0, hW0, hB0, X0, Z0⟩ := box2 w #[.int .i64 q.win, .int .i64 q.draw, .slice A2 q.clubs.length c2, .slice A3 q.points.length c3, .slice A4 q.games.length c4, .int .i64 q.club, .int .i64 q.place] #[.int .i64 0, .int .i64 0, .slice none 0 0, .slice none 0 0, .slice none 0 0, .int .i64 0, .int .i64 0] 25 53
  rw [hW0]
  clear hW0
  have hq0 := hq.below hB0
  have ho0 := ho.below hB0
  obtain ⟨lx, cx, fx⟩ := id X0
  cases hv : validB q
  · have hv' := Lib.hid hv
    clear hv
    go_wp2_with (go_at_call 21; refine (check_no ⟨q, A2, c2, A3, c3, A4, c4⟩ W0 hq0 hv'.out).mono ?_; rintro e w' ⟨rfl, hb9⟩; obtain ⟨lz, cz, fz⟩ := Z0.below hb9)
    obtain ⟨W1, hW1, hB1, Z1⟩ := box_over7 (Z0.below hb9) rfl (bthen hB0 hb9) (by omega)
    rw [hW1]
    obtain ⟨W2, hW2, hB2, Z2⟩ := box_over7 Z1 rfl hB1 (by omega)
    rw [hW2]
    refine bodyPost_ret (res27 Z2 rfl rfl rfl) rfl ⟨?_, hB2⟩
    rw [← HRes.out, complOf, hv'.out]
    rfl
  · have hv' := Lib.hid hv
    clear hv
    go_upto_region 2 with (go_at_call 21; refine (check_ok ⟨q, A2, c2, A3, c3, A4, c4⟩ W0 hq0 hv'.out).mono ?_; rintro e w' ⟨rfl, hb9⟩; obtain ⟨lz, cz, fz⟩ := Z0.below hb9)
    clear lx cx fx lz cz fz
    obtain ⟨W1, hW1, hB1, Z1⟩ := box_over7 (w0 := w') (B := w.heap.size + 1) (Z0.below hb9) rfl (Below.refl _ _) (Nat.le_refl _)
    rw [hW1]
    clear hW1
    have hBw := (bthen hB0 hb9).trans (hB1.mono (Nat.le_succ _))
    have X1 := (X0.below hb9).belowN hB1 (Nat.lt_succ_self _)
    have ho1 := ho.below hBw
    obtain ⟨lx, cx, fx⟩ := id X1
    go_upto_region 4 with (fail)
    refine Seg.plainB ?_
    repeat (first
      | (refine' Seg.pick_or (b := _) (x := _) (c := _) (y := _) rfl rfl rfl rfl ?_; simp only [Act.put, List.setIfInBounds_toArray, List.set_cons_zero, List.set_cons_succ])
      | (refine' Seg.pick_and (b := _) (x := _) (c := _) (y := _) rfl rfl rfl rfl ?_; simp only [Act.put, List.setIfInBounds_toArray, List.set_cons_zero, List.set_cons_succ])
      | (refine' Seg.val (v := _) rfl (fun w' hw => ?_) ?_; rotate_left 1; (obtain ⟨hbc, _⟩ := bcell hw; go_simp; rfl); simp only [Act.put, List.setIfInBounds_toArray, List.set_cons_zero, List.set_cons_succ])
      | (refine' Seg.skip ?_ ?_; (focus (first | (rw [Seg.wanted1 rfl rfl]; simp; done) | (rw [Seg.wanted2 rfl rfl]; simp; done))); simp only [Act.put, List.setIfInBounds_toArray, List.set_cons_zero, List.set_cons_succ])
      | (refine' Seg.pick_or_if (b := _) (x := _) (G := _) (c := _) (y := _) (by first | exact Seg.wanted1 rfl rfl | exact Seg.wanted2 rfl rfl) rfl rfl rfl ?_; simp only [Act.put, List.setIfInBounds_toArray, List.set_cons_zero, List.set_cons_succ])
      | (refine' Seg.pick_and_if (b := _) (x := _) (G := _) (c := _) (y := _) (by first | exact Seg.wanted1 rfl rfl | exact Seg.wanted2 rfl rfl) rfl rfl rfl ?_; simp only [Act.put, List.setIfInBounds_toArray, List.set_cons_zero, List.set_cons_succ])
      | (refine' Seg.val_if (v := _) (G := _) (by first | exact Seg.wanted1 rfl rfl | exact Seg.wanted2 rfl rfl) (fun hb w' hw => ?_) ?_; rotate_left 1; (simp only [Bool.and_eq_true, beq_iff_eq] at hb; obtain ⟨hbc, _⟩ := bcell hw; go_simp; rfl); simp only [Act.put, List.setIfInBounds_toArray, List.set_cons_zero, List.set_cons_succ]))
    refine' Seg.call_if (v := _) (G := _) (f := _) (args := _) (by first | exact Seg.wanted1 rfl rfl | exact Seg.wanted2 rfl rfl) (fun hb w' => ?_) (fun hb w' hw => callE hw (containsI_any B d o w' (ho1.below hw))) ?_
    · simp only [Bool.and_eq_true, beq_iff_eq] at hb
      go_simp
    simp only [Act.put, List.setIfInBounds_toArray, List.set_cons_zero, List.set_cons_succ]
    repeat (first
      | (refine' Seg.pick_or (b := _) (x := _) (c := _) (y := _) rfl rfl rfl rfl ?_; simp only [Act.put, List.setIfInBounds_toArray, List.set_cons_zero, List.set_cons_succ])
      | (refine' Seg.pick_and (b := _) (x := _) (c := _) (y := _) rfl rfl rfl rfl ?_; simp only [Act.put, List.setIfInBounds_toArray, List.set_cons_zero, List.set_cons_succ])
      | (refine' Seg.val (v := _) rfl (fun w' hw => ?_) ?_; rotate_left 1; (obtain ⟨hbc, _⟩ := bcell hw; go_simp; rfl); simp only [Act.put, List.setIfInBounds_toArray, List.set_cons_zero, List.set_cons_succ])
      | (refine' Seg.skip ?_ ?_; (focus (first | (rw [Seg.wanted1 rfl rfl]; simp; done) | (rw [Seg.wanted2 rfl rfl]; simp; done))); simp only [Act.put, List.setIfInBounds_toArray, List.set_cons_zero, List.set_cons_succ])
      | (refine' Seg.pick_or_if (b := _) (x := _) (G := _) (c := _) (y := _) (by first | exact Seg.wanted1 rfl rfl | exact Seg.wanted2 rfl rfl) rfl rfl rfl ?_; simp only [Act.put, List.setIfInBounds_toArray, List.set_cons_zero, List.set_cons_succ])
      | (refine' Seg.pick_and_if (b := _) (x := _) (G := _) (c := _) (y := _) (by first | exact Seg.wanted1 rfl rfl | exact Seg.wanted2 rfl rfl) rfl rfl rfl ?_; simp only [Act.put, List.setIfInBounds_toArray, List.set_cons_zero, List.set_cons_succ])
      | (refine' Seg.val_if (v := _) (G := _) (by first | exact Seg.wanted1 rfl rfl | exact Seg.wanted2 rfl rfl) (fun hb w' hw => ?_) ?_; rotate_left 1; (simp only [Bool.and_eq_true, beq_iff_eq] at hb; obtain ⟨hbc, _⟩ := bcell hw; go_simp; rfl); simp only [Act.put, List.setIfInBounds_toArray, List.set_cons_zero, List.set_cons_succ]))
    intro w3 hw3
    clear lx cx fx
    obtain ⟨lz, cz, fz⟩ := Z1.below hw3
    iterate 2 (generalize Seg.opt _ _ = u)
    generalize hcd : (_ || o.any badOut) = cd
    have HX : Hid (badArg q o = cd) := Lib.hid hcd
    clear hcd
    cases cd
    all_goals
      go_wp2
      obtain ⟨W2, hW2, hB2, Z2⟩ := box_over7 (Z1.below hw3) rfl (bthen hBw hw3) (Nat.le_succ _)
      rw [hW2]
      refine bodyPost_ret (res27 Z2 rfl rfl rfl) rfl ⟨?_, hB2⟩
      rw [← HRes.out, complOf, hv'.out, HX.out]
      rfl
end Go.Proofs.Ytfmekjpmjefpmaa

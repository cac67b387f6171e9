import Derived.Test.YtfmekjpmjefpmaaWa
import Derived.Test.YtfmekjpmjefpmaaOwn
set_option linter.unusedSimpArgs false
set_option linter.unusedVariables false
namespace Go.Proofs.Ytfmekjpmjefpmaa
open Go.RowKit

theorem highTo_bd {q : Race} (h : Good q) : ∀ k, k ≤ q.games.length → -99999 ≤ highTo q k ∧ highTo q k ≤ 99999 + 999 * k
  | 0, _ => by
    have := h.pt q.club.toNat (by have := h.c0; have := h.c1; omega)
    simp only [highTo, low]; omega
  | k + 1, hk => by
    have := highTo_bd h k (by omega)
    have := h.w1; have := h.d0; have := h.d1
    simp only [highTo]
    split <;> omega

theorem infoI : (Try.prog.info? 3).map (fun i => (i.zero, i.size, i.bytes)) = some (some (.int .i64 0), 1, 8) := by kernel_rfl

theorem floors {q : Race} (h : Good q) (a : Int) (h1 : -800000 ≤ a) (h2 : a ≤ 800000) (hd : 0 < q.draw) : -800001 ≤ floorI a q.draw ∧ floorI a q.draw ≤ 800000 := floorI_bd a q.draw 800000 h1 h2 hd
theorem term_bd {q : Race} (h : Good q) (ce : Bool) (hi x : Int) (h1 : -99999 ≤ hi) (h2 : hi ≤ 99999 + 999 * 552) (hd : 0 < q.draw) (x0 : 0 ≤ x) (x1 : x < q.clubs.length) : -1000000 ≤ term q ce hi x ∧ term q ce hi x ≤ 1000000 := by
  have hp := h.pt x.toNat (by omega)
  have hl := h.pt q.club.toNat (by have := h.c0; have := h.c1; omega)
  have f1 := floors h (rd q.points x.toNat - low q) (by unfold low; omega) (by unfold low; omega) hd
  have f2 := floors h (hi - rd q.points x.toNat) (by omega) (by omega) hd
  unfold term
  split
  · split <;> omega
  · omega
theorem sumTo_bd {q : Race} (h : Good q) (ce : Bool) (hi : Int) (cl : List Int) (h1 : -99999 ≤ hi) (h2 : hi ≤ 99999 + 999 * 552) (hd : 0 < q.draw) (hs : SetP q.clubs.length q.club cl cl.length) :
    ∀ k, k ≤ cl.length → -1000000 * (k : Int) ≤ sumTo q ce hi cl k ∧ sumTo q ce hi cl k ≤ 1000000 * (k : Int)
  | 0, _ => by simp [sumTo]
  | k + 1, hk => by
    have h3 := sumTo_bd h ce hi cl h1 h2 hd hs k (by omega)
    obtain ⟨x0, x1, _⟩ := hs k (by omega)
    have h4 := term_bd h ce hi (rd cl k) h1 h2 hd x0 x1
    simp only [sumTo]
    omega

set_option maxHeartbeats 800000 in
theorem equal_any (A : Option Addr) (c : Nat) (l : List Int) (B : Option Addr) (d : Nat) (k : List Int) (w : World) (hl : Row (Kd.int .i64) w A l) (hk : Row (Kd.int .i64) w B k) :
    Calls Try.prog 56 #[.slice A l.length c, .slice B k.length d] w fun e w' => e = .returned (.bool (decide (l = k))) ∧ Below w.heap.size w w' := by
  have hm := hl.1
  have hm' := hk.1
  by_cases hlen : (l.length : Int) = k.length
  · have h0 : ((l.length : Int) == k.length) = true := by simpa using hlen
    have h1 : ((l.length : Int) != k.length) = false := by simpa using hlen
    have HL := Lib.hid hlen
    clear hlen
    go_enter Try.func56, Try.ntmps56
    go_wp2
    go_loopw [13] (fun i wr => ∃ n : Nat, n ≤ l.length ∧ i = .int .i64 n ∧ Hid (∀ j, j < n → rd l j = rd k j) ∧ Below w.heap.size w wr) (fun i _ => l.length - (intOf i).toNat)
    case atStart => exact ⟨0, by omega, rfl, fun j hj => by omega, Below.refl _ _⟩
    case round =>
      obtain ⟨n, hn, rfl, HN, HB⟩ := hrel
      by_cases hlt : n < l.length
      · obtain ⟨b, o, rfl, hb, hc, _⟩ := (hl.below HB).int_at hlt
        obtain ⟨b', o', rfl, hb', hc', _⟩ := (hk.below HB).int_at (i := n) (by have := HL.out; omega)
        have hlt' : n < k.length := by have := HL.out; omega
        go_wp2
        refine Seg.regionB (by kernel_rfl) (by kernel_rfl) ?_
        repeat (first
          | (refine' Seg.pick_or (b := _) (x := _) (c := _) (y := _) rfl rfl rfl rfl ?_; simp only [Act.put, List.setIfInBounds_toArray, List.set_cons_zero, List.set_cons_succ])
          | (refine' Seg.pick_and (b := _) (x := _) (c := _) (y := _) rfl rfl rfl rfl ?_; simp only [Act.put, List.setIfInBounds_toArray, List.set_cons_zero, List.set_cons_succ])
          | (refine' Seg.val (v := _) rfl (fun w' hw => ?_) ?_; rotate_left 1; (obtain ⟨hbc, _⟩ := bcell hw; go_simp; rfl); simp only [Act.put, List.setIfInBounds_toArray, List.set_cons_zero, List.set_cons_succ])
          | (refine' Seg.skip ?_ ?_; (focus (first | (rw [Seg.wanted1 rfl rfl]; simp; done) | (rw [Seg.wanted2 rfl rfl]; simp; done))); simp only [Act.put, List.setIfInBounds_toArray, List.set_cons_zero, List.set_cons_succ])
          | (refine' Seg.pick_or_if (b := _) (x := _) (G := _) (c := _) (y := _) (by first | exact Seg.wanted1 rfl rfl | exact Seg.wanted2 rfl rfl) rfl rfl rfl ?_; simp only [Act.put, List.setIfInBounds_toArray, List.set_cons_zero, List.set_cons_succ])
          | (refine' Seg.pick_and_if (b := _) (x := _) (G := _) (c := _) (y := _) (by first | exact Seg.wanted1 rfl rfl | exact Seg.wanted2 rfl rfl) rfl rfl rfl ?_; simp only [Act.put, List.setIfInBounds_toArray, List.set_cons_zero, List.set_cons_succ])
          | (refine' Seg.val_if (v := _) (G := _) (by first | exact Seg.wanted1 rfl rfl | exact Seg.wanted2 rfl rfl) (fun hb w' hw => ?_) ?_; rotate_left 1; (simp only [Bool.and_eq_true, beq_iff_eq] at hb; obtain ⟨hbc, _⟩ := bcell hw; go_simp; rfl); simp only [Act.put, List.setIfInBounds_toArray, List.set_cons_zero, List.set_cons_succ]))
        intro w' hw
        cases hx : (rd l n != rd k n)
        · have hx' : Hid (rd l n = rd k n) := Lib.hid (by simpa using hx)
          go_wp2
          go_roundw
          case rel =>
            refine ⟨n + 1, by omega, by go_num, fun j hj => ?_, bthen HB hw⟩
            rcases Nat.lt_or_ge j n with h' | h'
            · exact HN.out j h'
            · obtain rfl : j = n := by omega
              exact hx'.out
          case measure => simp [intOf]; omega
        · have hx' : Hid (rd l n ≠ rd k n) := Lib.hid (by simpa using hx)
          go_wp2
          go_ret
          exact ⟨ret_bool (Eq.symm (decide_eq_false (fun e => hx'.out (by rw [e])))), bthen HB hw⟩
      · obtain rfl : n = l.length := by omega
        go_wp2
        go_ret
        exact ⟨ret_bool (Eq.symm (decide_eq_true (eq_rd (by have := HL.out; omega) HN.out))), HB⟩
  · have h0 : ((l.length : Int) == k.length) = false := by simpa using hlen
    have h1 : ((l.length : Int) != k.length) = true := by simpa using hlen
    have HL := Lib.hid hlen
    clear hlen
    go_enter Try.func56, Try.ntmps56
    go_wp2
    go_ret
    exact ⟨ret_bool (Eq.symm (decide_eq_false (fun e => HL.out (by rw [e])))), Below.refl _ _⟩

set_option maxHeartbeats 4000000 in
set_option maxRecDepth 100000 in
theorem fits_any (m : RaceM) (ce : Bool) (k : CutM) (w : World) (hq : RaceIn w m) (hk : CutIn w k) (hg : Good m.q) :
    Calls Try.prog 29 #[m.v, .bool ce, k.v] w fun e w' => e = .returned (.bool (fits m.q ce k.c)) ∧ Below w.heap.size w w' := by
  obtain ⟨q, A2, c2, A3, c3, A4, c4⟩ := m
  obtain ⟨⟨fr, cl, gs⟩, B0, d0, B1, d1, B2, d2⟩ := k
  dsimp only [RaceM.v, CutM.v] at *
  have hp0 := hg.p0
  have hp1 : q.place ≤ 24 := by have := hg.p1; have := hg.n1; omega
  have hd0 := hg.d0
  have hd1 : q.draw ≤ 999 := by have := hg.d1; have := hg.w1; omega
  have hn := hg.n1
  have i0 : 0 ≤ q.club := hg.c0
  have i1 : q.club < q.points.length := by have := hg.pl; have := hg.c1; omega
  have h3 := hq.h3
  dsimp only at h3
  obtain ⟨b, o, rfl, _⟩ := h3.int_at (i := q.club.toNat) (by omega)
  clear h3
  have HG := Lib.hid hg
  clear hg
  go_enter Try.func29, Try.ntmps29
  go_wp2
  obtain ⟨W0, hW0, hB0, X0, Y0⟩ := box2 w #[.int .i64 q.win, .int .i64 q.draw, .slice A2 q.clubs.length c2, .slice (some ⟨b, o, none⟩) q.points.length c3, .slice A4 q.games.length c4, .int .i64 q.club, .int .i64 q.place] #[.slice B0 fr.length d0, .slice B1 cl.length d1, .slice B2 gs.length d2] 53 43
  rw [hW0]
  clear hW0
  have hq0 := hq.below hB0
  have hk0 := hk.below hB0
  obtain ⟨lx, cx, fx⟩ := id X0
  obtain ⟨ly, cy, fy⟩ := id Y0
  refine Seg.regionB (by kernel_rfl) (by kernel_rfl) ?_
  repeat (first
    | (refine' Seg.pick_or (b := _) (x := _) (c := _) (y := _) rfl rfl rfl rfl ?_; simp only [Act.put, List.setIfInBounds_toArray, List.set_cons_zero, List.set_cons_succ])
    | (refine' Seg.pick_and (b := _) (x := _) (c := _) (y := _) rfl rfl rfl rfl ?_; simp only [Act.put, List.setIfInBounds_toArray, List.set_cons_zero, List.set_cons_succ])
    | (refine' Seg.val (v := _) rfl (fun w' hw => ?_) ?_; rotate_left 1; (obtain ⟨hbc, _⟩ := bcell hw; go_simp; rfl); simp only [Act.put, List.setIfInBounds_toArray, List.set_cons_zero, List.set_cons_succ])
    | (refine' Seg.skip ?_ ?_; (focus (first | (rw [Seg.wanted1 rfl rfl]; simp; done) | (rw [Seg.wanted2 rfl rfl]; simp; done))); simp only [Act.put, List.setIfInBounds_toArray, List.set_cons_zero, List.set_cons_succ])
    | (refine' Seg.pick_or_if (b := _) (x := _) (G := _) (c := _) (y := _) (by first | exact Seg.wanted1 rfl rfl | exact Seg.wanted2 rfl rfl) rfl rfl rfl ?_; simp only [Act.put, List.setIfInBounds_toArray, List.set_cons_zero, List.set_cons_succ])
    | (refine' Seg.pick_and_if (b := _) (x := _) (G := _) (c := _) (y := _) (by first | exact Seg.wanted1 rfl rfl | exact Seg.wanted2 rfl rfl) rfl rfl rfl ?_; simp only [Act.put, List.setIfInBounds_toArray, List.set_cons_zero, List.set_cons_succ])
    | (refine' Seg.val_if (v := _) (G := _) (by first | exact Seg.wanted1 rfl rfl | exact Seg.wanted2 rfl rfl) (fun hb w' hw => ?_) ?_; rotate_left 1; (simp only [Bool.and_eq_true, beq_iff_eq] at hb; obtain ⟨hbc, _⟩ := bcell hw; go_simp; rfl); simp only [Act.put, List.setIfInBounds_toArray, List.set_cons_zero, List.set_cons_succ]))
  refine' Seg.call (v := _) (f := _) (args := _) rfl (fun w' => ?_) (fun w' hw => callB hw (halves_any ⟨q, A2, c2, some ⟨b, o, none⟩, c3, A4, c4⟩ w' hd0 hd1)) ?_
  · go_simp
  simp only [Act.put, List.setIfInBounds_toArray, List.set_cons_zero, List.set_cons_succ]
  repeat (first
    | (refine' Seg.pick_or (b := _) (x := _) (c := _) (y := _) rfl rfl rfl rfl ?_; simp only [Act.put, List.setIfInBounds_toArray, List.set_cons_zero, List.set_cons_succ])
    | (refine' Seg.pick_and (b := _) (x := _) (c := _) (y := _) rfl rfl rfl rfl ?_; simp only [Act.put, List.setIfInBounds_toArray, List.set_cons_zero, List.set_cons_succ])
    | (refine' Seg.val (v := _) rfl (fun w' hw => ?_) ?_; rotate_left 1; (obtain ⟨hbc, _⟩ := bcell hw; go_simp; rfl); simp only [Act.put, List.setIfInBounds_toArray, List.set_cons_zero, List.set_cons_succ])
    | (refine' Seg.skip ?_ ?_; (focus (first | (rw [Seg.wanted1 rfl rfl]; simp; done) | (rw [Seg.wanted2 rfl rfl]; simp; done))); simp only [Act.put, List.setIfInBounds_toArray, List.set_cons_zero, List.set_cons_succ])
    | (refine' Seg.pick_or_if (b := _) (x := _) (G := _) (c := _) (y := _) (by first | exact Seg.wanted1 rfl rfl | exact Seg.wanted2 rfl rfl) rfl rfl rfl ?_; simp only [Act.put, List.setIfInBounds_toArray, List.set_cons_zero, List.set_cons_succ])
    | (refine' Seg.pick_and_if (b := _) (x := _) (G := _) (c := _) (y := _) (by first | exact Seg.wanted1 rfl rfl | exact Seg.wanted2 rfl rfl) rfl rfl rfl ?_; simp only [Act.put, List.setIfInBounds_toArray, List.set_cons_zero, List.set_cons_succ])
    | (refine' Seg.val_if (v := _) (G := _) (by first | exact Seg.wanted1 rfl rfl | exact Seg.wanted2 rfl rfl) (fun hb w' hw => ?_) ?_; rotate_left 1; (simp only [Bool.and_eq_true, beq_iff_eq] at hb; obtain ⟨hbc, _⟩ := bcell hw; go_simp; rfl); simp only [Act.put, List.setIfInBounds_toArray, List.set_cons_zero, List.set_cons_succ]))
  refine' Seg.call_if (v := _) (G := _) (f := _) (args := _) (by first | exact Seg.wanted1 rfl rfl | exact Seg.wanted2 rfl rfl) (fun hb w' => ?_) (fun hb w' hw => callB hw (isSet_any ⟨q, A2, c2, some ⟨b, o, none⟩, c3, A4, c4⟩ B0 d0 fr w' (hk0.below hw).h0 hn)) ?_
  · simp only [Bool.and_eq_true, beq_iff_eq] at hb
    go_simp
  simp only [Act.put, List.setIfInBounds_toArray, List.set_cons_zero, List.set_cons_succ]
  repeat (first
    | (refine' Seg.pick_or (b := _) (x := _) (c := _) (y := _) rfl rfl rfl rfl ?_; simp only [Act.put, List.setIfInBounds_toArray, List.set_cons_zero, List.set_cons_succ])
    | (refine' Seg.pick_and (b := _) (x := _) (c := _) (y := _) rfl rfl rfl rfl ?_; simp only [Act.put, List.setIfInBounds_toArray, List.set_cons_zero, List.set_cons_succ])
    | (refine' Seg.val (v := _) rfl (fun w' hw => ?_) ?_; rotate_left 1; (obtain ⟨hbc, _⟩ := bcell hw; go_simp; rfl); simp only [Act.put, List.setIfInBounds_toArray, List.set_cons_zero, List.set_cons_succ])
    | (refine' Seg.skip ?_ ?_; (focus (first | (rw [Seg.wanted1 rfl rfl]; simp; done) | (rw [Seg.wanted2 rfl rfl]; simp; done))); simp only [Act.put, List.setIfInBounds_toArray, List.set_cons_zero, List.set_cons_succ])
    | (refine' Seg.pick_or_if (b := _) (x := _) (G := _) (c := _) (y := _) (by first | exact Seg.wanted1 rfl rfl | exact Seg.wanted2 rfl rfl) rfl rfl rfl ?_; simp only [Act.put, List.setIfInBounds_toArray, List.set_cons_zero, List.set_cons_succ])
    | (refine' Seg.pick_and_if (b := _) (x := _) (G := _) (c := _) (y := _) (by first | exact Seg.wanted1 rfl rfl | exact Seg.wanted2 rfl rfl) rfl rfl rfl ?_; simp only [Act.put, List.setIfInBounds_toArray, List.set_cons_zero, List.set_cons_succ])
    | (refine' Seg.val_if (v := _) (G := _) (by first | exact Seg.wanted1 rfl rfl | exact Seg.wanted2 rfl rfl) (fun hb w' hw => ?_) ?_; rotate_left 1; (simp only [Bool.and_eq_true, beq_iff_eq] at hb; obtain ⟨hbc, _⟩ := bcell hw; go_simp; rfl); simp only [Act.put, List.setIfInBounds_toArray, List.set_cons_zero, List.set_cons_succ]))
  refine' Seg.call_if (v := _) (G := _) (f := _) (args := _) (by first | exact Seg.wanted1 rfl rfl | exact Seg.wanted2 rfl rfl) (fun hb w' => ?_) (fun hb w' hw => callB hw (isSet_any ⟨q, A2, c2, some ⟨b, o, none⟩, c3, A4, c4⟩ B1 d1 cl w' (hk0.below hw).h1 hn)) ?_
  · simp only [Bool.and_eq_true, beq_iff_eq] at hb
    go_simp
  simp only [Act.put, List.setIfInBounds_toArray, List.set_cons_zero, List.set_cons_succ]
  repeat (first
    | (refine' Seg.pick_or (b := _) (x := _) (c := _) (y := _) rfl rfl rfl rfl ?_; simp only [Act.put, List.setIfInBounds_toArray, List.set_cons_zero, List.set_cons_succ])
    | (refine' Seg.pick_and (b := _) (x := _) (c := _) (y := _) rfl rfl rfl rfl ?_; simp only [Act.put, List.setIfInBounds_toArray, List.set_cons_zero, List.set_cons_succ])
    | (refine' Seg.val (v := _) rfl (fun w' hw => ?_) ?_; rotate_left 1; (obtain ⟨hbc, _⟩ := bcell hw; go_simp; rfl); simp only [Act.put, List.setIfInBounds_toArray, List.set_cons_zero, List.set_cons_succ])
    | (refine' Seg.skip ?_ ?_; (focus (first | (rw [Seg.wanted1 rfl rfl]; simp; done) | (rw [Seg.wanted2 rfl rfl]; simp; done))); simp only [Act.put, List.setIfInBounds_toArray, List.set_cons_zero, List.set_cons_succ])
    | (refine' Seg.pick_or_if (b := _) (x := _) (G := _) (c := _) (y := _) (by first | exact Seg.wanted1 rfl rfl | exact Seg.wanted2 rfl rfl) rfl rfl rfl ?_; simp only [Act.put, List.setIfInBounds_toArray, List.set_cons_zero, List.set_cons_succ])
    | (refine' Seg.pick_and_if (b := _) (x := _) (G := _) (c := _) (y := _) (by first | exact Seg.wanted1 rfl rfl | exact Seg.wanted2 rfl rfl) rfl rfl rfl ?_; simp only [Act.put, List.setIfInBounds_toArray, List.set_cons_zero, List.set_cons_succ])
    | (refine' Seg.val_if (v := _) (G := _) (by first | exact Seg.wanted1 rfl rfl | exact Seg.wanted2 rfl rfl) (fun hb w' hw => ?_) ?_; rotate_left 1; (simp only [Bool.and_eq_true, beq_iff_eq] at hb; obtain ⟨hbc, _⟩ := bcell hw; go_simp; rfl); simp only [Act.put, List.setIfInBounds_toArray, List.set_cons_zero, List.set_cons_succ]))
  refine' Seg.call_if (v := _) (G := _) (f := _) (args := _) (by first | exact Seg.wanted1 rfl rfl | exact Seg.wanted2 rfl rfl) (fun hb w' => ?_) (fun hb w' hw => callB hw (size_any ⟨q, A2, c2, some ⟨b, o, none⟩, c3, A4, c4⟩ ce w' hp0 hp1)) ?_
  · simp only [Bool.and_eq_true, beq_iff_eq] at hb
    go_simp
  simp only [Act.put, List.setIfInBounds_toArray, List.set_cons_zero, List.set_cons_succ]
  repeat (first
    | (refine' Seg.pick_or (b := _) (x := _) (c := _) (y := _) rfl rfl rfl rfl ?_; simp only [Act.put, List.setIfInBounds_toArray, List.set_cons_zero, List.set_cons_succ])
    | (refine' Seg.pick_and (b := _) (x := _) (c := _) (y := _) rfl rfl rfl rfl ?_; simp only [Act.put, List.setIfInBounds_toArray, List.set_cons_zero, List.set_cons_succ])
    | (refine' Seg.val (v := _) rfl (fun w' hw => ?_) ?_; rotate_left 1; (obtain ⟨hbc, _⟩ := bcell hw; go_simp; rfl); simp only [Act.put, List.setIfInBounds_toArray, List.set_cons_zero, List.set_cons_succ])
    | (refine' Seg.skip ?_ ?_; (focus (first | (rw [Seg.wanted1 rfl rfl]; simp; done) | (rw [Seg.wanted2 rfl rfl]; simp; done))); simp only [Act.put, List.setIfInBounds_toArray, List.set_cons_zero, List.set_cons_succ])
    | (refine' Seg.pick_or_if (b := _) (x := _) (G := _) (c := _) (y := _) (by first | exact Seg.wanted1 rfl rfl | exact Seg.wanted2 rfl rfl) rfl rfl rfl ?_; simp only [Act.put, List.setIfInBounds_toArray, List.set_cons_zero, List.set_cons_succ])
    | (refine' Seg.pick_and_if (b := _) (x := _) (G := _) (c := _) (y := _) (by first | exact Seg.wanted1 rfl rfl | exact Seg.wanted2 rfl rfl) rfl rfl rfl ?_; simp only [Act.put, List.setIfInBounds_toArray, List.set_cons_zero, List.set_cons_succ])
    | (refine' Seg.val_if (v := _) (G := _) (by first | exact Seg.wanted1 rfl rfl | exact Seg.wanted2 rfl rfl) (fun hb w' hw => ?_) ?_; rotate_left 1; (simp only [Bool.and_eq_true, beq_iff_eq] at hb; obtain ⟨hbc, _⟩ := bcell hw; go_simp; rfl); simp only [Act.put, List.setIfInBounds_toArray, List.set_cons_zero, List.set_cons_succ]))
  intro w1 hw1
  have hB1 := bthen hB0 hw1
  clear lx cx fx ly cy fy
  iterate 21 (generalize Seg.opt _ _ = u)
  generalize hcd : ((((!halves q || !isSet q fr) || !isSet q cl) || ((cl.length : Int) == 0)) || ((fr.length : Int) != size q ce)) = cd
  have HC : Hid (cd = false ↔ halves q = true ∧ isSet q fr = true ∧ isSet q cl = true ∧ cl.length ≠ 0 ∧ (fr.length : Int) = size q ce) := by
    show _ ↔ _
    rw [← hcd]
    simp only [Bool.or_eq_false_iff, Bool.not_eq_false']
    simp [and_assoc]
  clear hcd
  cases cd
  · obtain ⟨C1, C2, C3, C4, C5⟩ := HC.out.1 rfl
    clear HC
    have HC := Lib.hid (And.intro C1 (And.intro C2 (And.intro C3 (And.intro C4 C5))))
    have hset : Hid (SetP q.clubs.length q.club cl cl.length) := Lib.hid (of_decide_eq_true C3)
    clear C1 C2 C3 C5
    obtain ⟨b1, o1, e1, _⟩ := hk0.h1.int_at (i := 0) (by dsimp only; omega)
    dsimp only at e1
    subst e1
    obtain ⟨b', o', e', hbl, hcl, hwl⟩ := (hq0.below hw1).h3.int_at (i := q.club.toNat) (by dsimp only; omega)
    cases e'
    obtain ⟨lx, cx, fx⟩ := X0.below hw1
    obtain ⟨ly, cy, fy⟩ := Y0.below hw1
    go_wp2
    clear lx cx fx ly cy fy hbl hcl
    go_loopw [8, 9, 63] (fun v8 v9 v63 wr => ∃ (n : Nat) (A : Option Addr) (c : Nat), n ≤ q.games.length ∧ v63 = .int .i64 n ∧ v8 = .int .i64 (highTo q n) ∧ v9 = .slice A (gamesTo q ce cl n).length c ∧ OwnI .i64 3 wr W0.heap.size A c (gamesTo q ce cl n) ∧ Below W0.heap.size W0 wr) (fun _ _ i _ => q.games.length - (intOf i).toNat)
    case atStart => exact ⟨0, none, 0, by omega, rfl, rfl, rfl, OwnI.nil _ _ _ _, hw1⟩
    case round =>
      obtain ⟨n, A, c, hn, rfl, rfl, rfl, hO, HB⟩ := hrel
      by_cases hlt : n < q.games.length
      · obtain ⟨lx, cx, fx⟩ := X0.below HB
        obtain ⟨b4, o4, e4, hb4, hel, her, wl, wr'⟩ := (hq0.below HB).h4.edge_at hlt
        dsimp only at e4
        subst e4
        go_wp2
        clear lx cx fx hb4 hel her
        obtain ⟨W2, hW2, hB2, Z2⟩ := box1 wr #[.int .i64 (rdE q.games n).l, .int .i64 (rdE q.games n).r] 51
        rw [hW2]
        clear hW2
        have HB2 := bthen HB hB2
        have hk2 := hk0.below HB2
        have hO2 := hO.below hB2
        have hOn := hO.new
        clear hO
        obtain ⟨ly, cy, fy⟩ := Y0.below HB2
        obtain ⟨lz, cz, fz⟩ := id Z2
        refine Seg.regionB (by kernel_rfl) (by kernel_rfl) ?_
        repeat (first
          | (refine' Seg.pick_or (b := _) (x := _) (c := _) (y := _) rfl rfl rfl rfl ?_; simp only [Act.put, List.setIfInBounds_toArray, List.set_cons_zero, List.set_cons_succ])
          | (refine' Seg.pick_and (b := _) (x := _) (c := _) (y := _) rfl rfl rfl rfl ?_; simp only [Act.put, List.setIfInBounds_toArray, List.set_cons_zero, List.set_cons_succ])
          | (refine' Seg.val (v := _) rfl (fun w' hw => ?_) ?_; rotate_left 1; (obtain ⟨hbc, _⟩ := bcell hw; go_simp; rfl); simp only [Act.put, List.setIfInBounds_toArray, List.set_cons_zero, List.set_cons_succ])
          | (refine' Seg.skip ?_ ?_; (focus (first | (rw [Seg.wanted1 rfl rfl]; simp; done) | (rw [Seg.wanted2 rfl rfl]; simp; done))); simp only [Act.put, List.setIfInBounds_toArray, List.set_cons_zero, List.set_cons_succ])
          | (refine' Seg.pick_or_if (b := _) (x := _) (G := _) (c := _) (y := _) (by first | exact Seg.wanted1 rfl rfl | exact Seg.wanted2 rfl rfl) rfl rfl rfl ?_; simp only [Act.put, List.setIfInBounds_toArray, List.set_cons_zero, List.set_cons_succ])
          | (refine' Seg.pick_and_if (b := _) (x := _) (G := _) (c := _) (y := _) (by first | exact Seg.wanted1 rfl rfl | exact Seg.wanted2 rfl rfl) rfl rfl rfl ?_; simp only [Act.put, List.setIfInBounds_toArray, List.set_cons_zero, List.set_cons_succ])
          | (refine' Seg.val_if (v := _) (G := _) (by first | exact Seg.wanted1 rfl rfl | exact Seg.wanted2 rfl rfl) (fun hb w' hw => ?_) ?_; rotate_left 1; (simp only [Bool.and_eq_true, beq_iff_eq] at hb; obtain ⟨hbc, _⟩ := bcell hw; go_simp; rfl); simp only [Act.put, List.setIfInBounds_toArray, List.set_cons_zero, List.set_cons_succ]))
        refine' Seg.call (v := _) (f := _) (args := _) rfl (fun w' => ?_) (fun w' hw => callE hw (contains_any (some ⟨b1, o1, none⟩) d1 cl (rdE q.games n).l w' (hk2.below hw).h1)) ?_
        · go_simp
        simp only [Act.put, List.setIfInBounds_toArray, List.set_cons_zero, List.set_cons_succ]
        repeat (first
          | (refine' Seg.pick_or (b := _) (x := _) (c := _) (y := _) rfl rfl rfl rfl ?_; simp only [Act.put, List.setIfInBounds_toArray, List.set_cons_zero, List.set_cons_succ])
          | (refine' Seg.pick_and (b := _) (x := _) (c := _) (y := _) rfl rfl rfl rfl ?_; simp only [Act.put, List.setIfInBounds_toArray, List.set_cons_zero, List.set_cons_succ])
          | (refine' Seg.val (v := _) rfl (fun w' hw => ?_) ?_; rotate_left 1; (obtain ⟨hbc, _⟩ := bcell hw; go_simp; rfl); simp only [Act.put, List.setIfInBounds_toArray, List.set_cons_zero, List.set_cons_succ])
          | (refine' Seg.skip ?_ ?_; (focus (first | (rw [Seg.wanted1 rfl rfl]; simp; done) | (rw [Seg.wanted2 rfl rfl]; simp; done))); simp only [Act.put, List.setIfInBounds_toArray, List.set_cons_zero, List.set_cons_succ])
          | (refine' Seg.pick_or_if (b := _) (x := _) (G := _) (c := _) (y := _) (by first | exact Seg.wanted1 rfl rfl | exact Seg.wanted2 rfl rfl) rfl rfl rfl ?_; simp only [Act.put, List.setIfInBounds_toArray, List.set_cons_zero, List.set_cons_succ])
          | (refine' Seg.pick_and_if (b := _) (x := _) (G := _) (c := _) (y := _) (by first | exact Seg.wanted1 rfl rfl | exact Seg.wanted2 rfl rfl) rfl rfl rfl ?_; simp only [Act.put, List.setIfInBounds_toArray, List.set_cons_zero, List.set_cons_succ])
          | (refine' Seg.val_if (v := _) (G := _) (by first | exact Seg.wanted1 rfl rfl | exact Seg.wanted2 rfl rfl) (fun hb w' hw => ?_) ?_; rotate_left 1; (simp only [Bool.and_eq_true, beq_iff_eq] at hb; obtain ⟨hbc, _⟩ := bcell hw; go_simp; rfl); simp only [Act.put, List.setIfInBounds_toArray, List.set_cons_zero, List.set_cons_succ]))
        refine' Seg.call (v := _) (f := _) (args := _) rfl (fun w' => ?_) (fun w' hw => callE hw (contains_any (some ⟨b1, o1, none⟩) d1 cl (rdE q.games n).r w' (hk2.below hw).h1)) ?_
        · go_simp
        simp only [Act.put, List.setIfInBounds_toArray, List.set_cons_zero, List.set_cons_succ]
        repeat (first
          | (refine' Seg.pick_or (b := _) (x := _) (c := _) (y := _) rfl rfl rfl rfl ?_; simp only [Act.put, List.setIfInBounds_toArray, List.set_cons_zero, List.set_cons_succ])
          | (refine' Seg.pick_and (b := _) (x := _) (c := _) (y := _) rfl rfl rfl rfl ?_; simp only [Act.put, List.setIfInBounds_toArray, List.set_cons_zero, List.set_cons_succ])
          | (refine' Seg.val (v := _) rfl (fun w' hw => ?_) ?_; rotate_left 1; (obtain ⟨hbc, _⟩ := bcell hw; go_simp; rfl); simp only [Act.put, List.setIfInBounds_toArray, List.set_cons_zero, List.set_cons_succ])
          | (refine' Seg.skip ?_ ?_; (focus (first | (rw [Seg.wanted1 rfl rfl]; simp; done) | (rw [Seg.wanted2 rfl rfl]; simp; done))); simp only [Act.put, List.setIfInBounds_toArray, List.set_cons_zero, List.set_cons_succ])
          | (refine' Seg.pick_or_if (b := _) (x := _) (G := _) (c := _) (y := _) (by first | exact Seg.wanted1 rfl rfl | exact Seg.wanted2 rfl rfl) rfl rfl rfl ?_; simp only [Act.put, List.setIfInBounds_toArray, List.set_cons_zero, List.set_cons_succ])
          | (refine' Seg.pick_and_if (b := _) (x := _) (G := _) (c := _) (y := _) (by first | exact Seg.wanted1 rfl rfl | exact Seg.wanted2 rfl rfl) rfl rfl rfl ?_; simp only [Act.put, List.setIfInBounds_toArray, List.set_cons_zero, List.set_cons_succ])
          | (refine' Seg.val_if (v := _) (G := _) (by first | exact Seg.wanted1 rfl rfl | exact Seg.wanted2 rfl rfl) (fun hb w' hw => ?_) ?_; rotate_left 1; (simp only [Bool.and_eq_true, beq_iff_eq] at hb; obtain ⟨hbc, _⟩ := bcell hw; go_simp; rfl); simp only [Act.put, List.setIfInBounds_toArray, List.set_cons_zero, List.set_cons_succ]))
        intro w3 hw3
        clear ly cy fy lz cz fz
        have HB3 := bthen HB2 hw3
        have hO3 := hO2.below hw3
        clear hO2
        repeat (first | (with_reducible refine Seg.plainE ?_) | go_step)
        repeat (first
          | (refine' Seg.pick_or (b := _) (x := _) (c := _) (y := _) rfl rfl rfl rfl ?_; simp only [Act.put, List.setIfInBounds_toArray, List.set_cons_zero, List.set_cons_succ])
          | (refine' Seg.pick_and (b := _) (x := _) (c := _) (y := _) rfl rfl rfl rfl ?_; simp only [Act.put, List.setIfInBounds_toArray, List.set_cons_zero, List.set_cons_succ])
          | (refine' Seg.val (v := _) rfl (fun w' hw => ?_) ?_; rotate_left 1; (subst hw; go_simp; rfl); simp only [Act.put, List.setIfInBounds_toArray, List.set_cons_zero, List.set_cons_succ])
          | (refine' Seg.skip ?_ ?_; (focus (first | (rw [Seg.wanted1 rfl rfl]; simp; done) | (rw [Seg.wanted2 rfl rfl]; simp; done))); simp only [Act.put, List.setIfInBounds_toArray, List.set_cons_zero, List.set_cons_succ])
          | (refine' Seg.pick_or_if (b := _) (x := _) (G := _) (c := _) (y := _) (by first | exact Seg.wanted1 rfl rfl | exact Seg.wanted2 rfl rfl) rfl rfl rfl ?_; simp only [Act.put, List.setIfInBounds_toArray, List.set_cons_zero, List.set_cons_succ])
          | (refine' Seg.pick_and_if (b := _) (x := _) (G := _) (c := _) (y := _) (by first | exact Seg.wanted1 rfl rfl | exact Seg.wanted2 rfl rfl) rfl rfl rfl ?_; simp only [Act.put, List.setIfInBounds_toArray, List.set_cons_zero, List.set_cons_succ])
          | (refine' Seg.val_if (v := _) (G := _) (by first | exact Seg.wanted1 rfl rfl | exact Seg.wanted2 rfl rfl) (fun hb w' hw => ?_) ?_; rotate_left 1; (simp only [Bool.and_eq_true, beq_iff_eq] at hb; subst hw; go_simp; rfl); simp only [Act.put, List.setIfInBounds_toArray, List.set_cons_zero, List.set_cons_succ]))
        refine Seg.done ?_
        iterate 7 (generalize Seg.opt _ _ = u)
        rw [show (decide ((rdE q.games n).l ∈ cl) && decide ((rdE q.games n).r ∈ cl) || (ce && (decide ((rdE q.games n).l ∈ cl) || decide ((rdE q.games n).r ∈ cl)))) = sel ce cl (rdE q.games n) from rfl]
        obtain ⟨lx, cx, fx⟩ := X0.below HB3
        obtain ⟨lz, cz, fz⟩ := Z2.below hw3
        have hb3 := highTo_bd HG.out n (by omega)
        have hw0 := HG.out.w1
        have hw01 : 0 ≤ q.win := by have := HG.out.d1; omega
        have hgl := gamesTo_le q ce cl n
        have hg1 := HG.out.g1
        have hS3 : W0.heap.size ≤ w3.heap.size := HB3.size
        cases hs : sel ce cl (rdE q.games n)
        · go_wp2
          all_goals
            go_roundw
            case rel =>
              refine ⟨n + 1, A, c, by omega, by go_num, ?_, ?_, ?_, HB3⟩
              · simp only [highTo]
                split
                · first | rfl | (exfalso; rename_i h; rcases h with h | h <;> simp_all <;> done)
                · first | (simp only [Int.add_zero]; done) | (exfalso; simp_all <;> done)
              · simp [gamesTo, hs]
              · simp only [gamesTo, hs]; simpa using hO3
            case measure => simp [intOf]; omega
        · have hne : (Value.slice A (gamesTo q ce cl n).length c).ownBlock ≠ some wr.heap.size := fun e => by have := hOn _ e; omega
          have hne2 : (Value.slice A (gamesTo q ce cl n).length c).ownBlock ≠ some w.heap.size := fun e => by have := hOn _ e; have := X0.lt; omega
          go_wp2_with (at_builtin; refine append1 rfl _ _ 22 rfl Try.underlying22 infoI rfl (hO3.alloc _) ⟨w3.heap.size, 0, none⟩ n rfl (by simp [go_sem]) (WalkArith.wf_i64 (by omega)) (by omega) (by simp; omega) ?_; intro g c' w4 hO4 hg4 hn4 hl4; obtain ⟨lx4, cx4, fx4⟩ := ((X0.below HB3).alloc _).grown hg4 (Ne.symm hne2); obtain ⟨lz4, cz4, fz4⟩ := ((Z2.below hw3).alloc _).grown hg4 (Ne.symm hne))
          all_goals
            go_roundw
            case rel =>
              refine ⟨n + 1, some ⟨g, 0, none⟩, c', by omega, by go_num, ?_, ?_, ?_, below_append (balloc HB3 _) (hO3.alloc _) hg4 (by simp; omega)⟩
              · simp only [highTo]
                split
                · first | rfl | (exfalso; rename_i h; rcases h with h | h <;> simp_all <;> done)
                · first | (simp only [Int.add_zero]; done) | (exfalso; simp_all <;> done)
              · simp [gamesTo, hs]
              · simpa only [gamesTo, hs, if_true] using hO4
            case measure => simp [intOf]; omega
      · have hlt0 : q.games.length ≤ n := by omega
        obtain rfl : n = q.games.length := by omega
        obtain ⟨lx, cx, fx⟩ := X0.below HB
        obtain ⟨ly, cy, fy⟩ := Y0.below HB
        go_wp2
        clear lx cx fx ly cy fy
        have hhigh := highTo_bd HG.out q.games.length (by omega)
        have hcl : cl.length ≤ 24 := by have := hset.out.len; omega
        have hg1 := HG.out.g1
        have hpl := Lib.hid HG.out.pl
        have hdp : 0 < q.draw := by have := HC.out.1; simp only [halves, Bool.and_eq_true, decide_eq_true_eq] at this; exact this.1
        have hlow := HG.out.pt q.club.toNat (by have := HG.out.c1; omega)
        go_loopw [14, 118] (fun v14 v118 wp => ∃ n : Nat, n ≤ cl.length ∧ v118 = .int .i64 n ∧ v14 = .int .i64 (sumTo q ce (highTo q q.games.length) cl n) ∧ Hid (∀ i, i < n → decide (rd cl i ∈ fr) = ce) ∧ OwnI .i64 3 wp W0.heap.size A c (gamesTo q ce cl q.games.length) ∧ Below W0.heap.size W0 wp) (fun _ i _ => cl.length - (intOf i).toNat)
        case atStart => exact ⟨0, by omega, rfl, rfl, fun i hi => by omega, hO, HB⟩
        case round =>
          obtain ⟨n, hn, rfl, rfl, HF, hO, HB⟩ := hrel
          have HB' := bthen hB0 HB
          by_cases hlt : n < cl.length
          · obtain ⟨lx, cx, fx⟩ := X0.below HB
            obtain ⟨ly, cy, fy⟩ := Y0.below HB
            obtain ⟨b6, o6, e6, hb6, hc6, _⟩ := (hk0.below HB).h1.int_at hlt
            cases e6
            obtain ⟨x0, x1, x2, _⟩ := hset.out n hlt
            obtain ⟨b7, o7, e7, hb7, hc7, _⟩ := (hq0.below HB).h3.int_at (i := (rd cl n).toNat) (by have := hpl.out; dsimp only; omega)
            cases e7
            dsimp only at hc6 hc7
            have hpx := HG.out.pt (rd cl n).toNat (by omega)
            have x3 : rd cl n < q.points.length := by have := hpl.out; omega
            have hsum := sumTo_bd HG.out ce (highTo q q.games.length) cl hhigh.1 (by omega) hdp hset.out n (by omega)
            have hterm := term_bd HG.out ce (highTo q q.games.length) (rd cl n) hhigh.1 (by omega) hdp x0 x1
            by_cases hmem : decide (rd cl n ∈ fr) = ce
            · have HF1 : Hid (∀ i, i < n + 1 → decide (rd cl i ∈ fr) = ce) := fun i hi => by
                rcases Nat.lt_or_ge i n with h' | h'
                · exact HF.out i h'
                · obtain rfl : i = n := by omega
                  exact hmem
              have HD := Lib.hid hmem
              clear hmem
              have s1 : -32000000 ≤ sumTo q ce (highTo q q.games.length) cl n := by omega
              have s2 : sumTo q ce (highTo q q.games.length) cl n ≤ 32000000 := by omega
              cases ce
              · go_wp2_with (go_at_call 54; refine (contains_any B0 d0 fr _ _ (hk0.below HB).h0).mono ?_; rintro e w' ⟨rfl, rfl⟩; rw [HD.out])
                have f1 := floors HG.out (highTo q q.games.length - rd q.points (rd cl n).toNat) (by omega) (by omega) hdp
                have e1 : IntKind.i64.wrap (highTo q q.games.length - rd q.points (rd cl n).toNat) = highTo q q.games.length - rd q.points (rd cl n).toNat := IntWalk.i64_in _ (by omega)
                have e2 : IntKind.i64.wrap (sumTo q false (highTo q q.games.length) cl n - floorI (highTo q q.games.length - rd q.points (rd cl n).toNat) q.draw) = sumTo q false (highTo q q.games.length) cl n - floorI (highTo q q.games.length - rd q.points (rd cl n).toNat) q.draw := IntWalk.i64_in _ (by omega)
                refine Seg.regionB (by kernel_rfl) (by kernel_rfl) ?_
                repeat (first
                  | (refine' Seg.pick_or (b := _) (x := _) (c := _) (y := _) rfl rfl rfl rfl ?_; simp only [Act.put, List.setIfInBounds_toArray, List.set_cons_zero, List.set_cons_succ])
                  | (refine' Seg.pick_and (b := _) (x := _) (c := _) (y := _) rfl rfl rfl rfl ?_; simp only [Act.put, List.setIfInBounds_toArray, List.set_cons_zero, List.set_cons_succ])
                  | (refine' Seg.val (v := _) rfl (fun w' hw => ?_) ?_; rotate_left 1; (obtain ⟨hbc, _⟩ := bcell hw; go_simp; rfl); simp only [Act.put, List.setIfInBounds_toArray, List.set_cons_zero, List.set_cons_succ])
                  | (refine' Seg.skip ?_ ?_; (focus (first | (rw [Seg.wanted1 rfl rfl]; simp; done) | (rw [Seg.wanted2 rfl rfl]; simp; done))); simp only [Act.put, List.setIfInBounds_toArray, List.set_cons_zero, List.set_cons_succ])
                  | (refine' Seg.pick_or_if (b := _) (x := _) (G := _) (c := _) (y := _) (by first | exact Seg.wanted1 rfl rfl | exact Seg.wanted2 rfl rfl) rfl rfl rfl ?_; simp only [Act.put, List.setIfInBounds_toArray, List.set_cons_zero, List.set_cons_succ])
                  | (refine' Seg.pick_and_if (b := _) (x := _) (G := _) (c := _) (y := _) (by first | exact Seg.wanted1 rfl rfl | exact Seg.wanted2 rfl rfl) rfl rfl rfl ?_; simp only [Act.put, List.setIfInBounds_toArray, List.set_cons_zero, List.set_cons_succ])
                  | (refine' Seg.val_if (v := _) (G := _) (by first | exact Seg.wanted1 rfl rfl | exact Seg.wanted2 rfl rfl) (fun hb w' hw => ?_) ?_; rotate_left 1; (simp only [Bool.and_eq_true, beq_iff_eq] at hb; obtain ⟨hbc, _⟩ := bcell hw; go_simp; rfl); simp only [Act.put, List.setIfInBounds_toArray, List.set_cons_zero, List.set_cons_succ]))
                refine' Seg.call (v := _) (f := _) (args := _) rfl (fun w' => ?_) (fun w' hw => callE hw (floor_any (highTo q q.games.length - rd q.points (rd cl n).toNat) q.draw w' (by omega) (by omega) hdp hd1)) ?_
                · go_simp
                simp only [Act.put, List.setIfInBounds_toArray, List.set_cons_zero, List.set_cons_succ]
                repeat (first
                  | (refine' Seg.pick_or (b := _) (x := _) (c := _) (y := _) rfl rfl rfl rfl ?_; simp only [Act.put, List.setIfInBounds_toArray, List.set_cons_zero, List.set_cons_succ])
                  | (refine' Seg.pick_and (b := _) (x := _) (c := _) (y := _) rfl rfl rfl rfl ?_; simp only [Act.put, List.setIfInBounds_toArray, List.set_cons_zero, List.set_cons_succ])
                  | (refine' Seg.val (v := _) rfl (fun w' hw => ?_) ?_; rotate_left 1; (obtain ⟨hbc, _⟩ := bcell hw; go_simp; rfl); simp only [Act.put, List.setIfInBounds_toArray, List.set_cons_zero, List.set_cons_succ])
                  | (refine' Seg.skip ?_ ?_; (focus (first | (rw [Seg.wanted1 rfl rfl]; simp; done) | (rw [Seg.wanted2 rfl rfl]; simp; done))); simp only [Act.put, List.setIfInBounds_toArray, List.set_cons_zero, List.set_cons_succ])
                  | (refine' Seg.pick_or_if (b := _) (x := _) (G := _) (c := _) (y := _) (by first | exact Seg.wanted1 rfl rfl | exact Seg.wanted2 rfl rfl) rfl rfl rfl ?_; simp only [Act.put, List.setIfInBounds_toArray, List.set_cons_zero, List.set_cons_succ])
                  | (refine' Seg.pick_and_if (b := _) (x := _) (G := _) (c := _) (y := _) (by first | exact Seg.wanted1 rfl rfl | exact Seg.wanted2 rfl rfl) rfl rfl rfl ?_; simp only [Act.put, List.setIfInBounds_toArray, List.set_cons_zero, List.set_cons_succ])
                  | (refine' Seg.val_if (v := _) (G := _) (by first | exact Seg.wanted1 rfl rfl | exact Seg.wanted2 rfl rfl) (fun hb w' hw => ?_) ?_; rotate_left 1; (simp only [Bool.and_eq_true, beq_iff_eq] at hb; obtain ⟨hbc, _⟩ := bcell hw; go_simp; rfl); simp only [Act.put, List.setIfInBounds_toArray, List.set_cons_zero, List.set_cons_succ]))
                intro w5 hw5
                go_wp2
                go_roundw
                case rel => exact ⟨n + 1, by omega, by go_num, by simp only [sumTo, term]; simp [Int.sub_eq_add_neg], HF1, hO.below hw5, bthen HB hw5⟩
                case measure => simp [intOf]; omega
              · go_wp2_with (go_at_call 54; refine (contains_any B0 d0 fr _ _ (hk0.below HB).h0).mono ?_; rintro e w' ⟨rfl, rfl⟩; rw [HD.out])
                have f1 := floors HG.out (rd q.points (rd cl n).toNat - low q) (by unfold low; omega) (by unfold low; omega) hdp
                have e1 : IntKind.i64.wrap (rd q.points (rd cl n).toNat - rd q.points q.club.toNat) = rd q.points (rd cl n).toNat - low q := IntWalk.i64_in _ (by omega)
                have e2 : IntKind.i64.wrap (-floorI (rd q.points (rd cl n).toNat - low q) q.draw) = -floorI (rd q.points (rd cl n).toNat - low q) q.draw := IntWalk.i64_in _ (by omega)
                have e3 : IntKind.i64.wrap (sumTo q true (highTo q q.games.length) cl n + term q true (highTo q q.games.length) (rd cl n)) = sumTo q true (highTo q q.games.length) cl n + term q true (highTo q q.games.length) (rd cl n) := IntWalk.i64_in _ (by omega)
                refine Seg.regionB (by kernel_rfl) (by kernel_rfl) ?_
                repeat (first
                  | (refine' Seg.pick_or (b := _) (x := _) (c := _) (y := _) rfl rfl rfl rfl ?_; simp only [Act.put, List.setIfInBounds_toArray, List.set_cons_zero, List.set_cons_succ])
                  | (refine' Seg.pick_and (b := _) (x := _) (c := _) (y := _) rfl rfl rfl rfl ?_; simp only [Act.put, List.setIfInBounds_toArray, List.set_cons_zero, List.set_cons_succ])
                  | (refine' Seg.val (v := _) rfl (fun w' hw => ?_) ?_; rotate_left 1; (obtain ⟨hbc, _⟩ := bcell hw; go_simp; rfl); simp only [Act.put, List.setIfInBounds_toArray, List.set_cons_zero, List.set_cons_succ])
                  | (refine' Seg.skip ?_ ?_; (focus (first | (rw [Seg.wanted1 rfl rfl]; simp; done) | (rw [Seg.wanted2 rfl rfl]; simp; done))); simp only [Act.put, List.setIfInBounds_toArray, List.set_cons_zero, List.set_cons_succ])
                  | (refine' Seg.pick_or_if (b := _) (x := _) (G := _) (c := _) (y := _) (by first | exact Seg.wanted1 rfl rfl | exact Seg.wanted2 rfl rfl) rfl rfl rfl ?_; simp only [Act.put, List.setIfInBounds_toArray, List.set_cons_zero, List.set_cons_succ])
                  | (refine' Seg.pick_and_if (b := _) (x := _) (G := _) (c := _) (y := _) (by first | exact Seg.wanted1 rfl rfl | exact Seg.wanted2 rfl rfl) rfl rfl rfl ?_; simp only [Act.put, List.setIfInBounds_toArray, List.set_cons_zero, List.set_cons_succ])
                  | (refine' Seg.val_if (v := _) (G := _) (by first | exact Seg.wanted1 rfl rfl | exact Seg.wanted2 rfl rfl) (fun hb w' hw => ?_) ?_; rotate_left 1; (simp only [Bool.and_eq_true, beq_iff_eq] at hb; obtain ⟨hbc, _⟩ := bcell hw; go_simp; rfl); simp only [Act.put, List.setIfInBounds_toArray, List.set_cons_zero, List.set_cons_succ]))
                refine' Seg.call (v := _) (f := _) (args := _) rfl (fun w' => ?_) (fun w' hw => callE hw (floor_any (rd q.points (rd cl n).toNat - low q) q.draw w' (by unfold low; omega) (by unfold low; omega) hdp hd1)) ?_
                · go_simp
                simp only [Act.put, List.setIfInBounds_toArray, List.set_cons_zero, List.set_cons_succ]
                repeat (first
                  | (refine' Seg.pick_or (b := _) (x := _) (c := _) (y := _) rfl rfl rfl rfl ?_; simp only [Act.put, List.setIfInBounds_toArray, List.set_cons_zero, List.set_cons_succ])
                  | (refine' Seg.pick_and (b := _) (x := _) (c := _) (y := _) rfl rfl rfl rfl ?_; simp only [Act.put, List.setIfInBounds_toArray, List.set_cons_zero, List.set_cons_succ])
                  | (refine' Seg.val (v := _) rfl (fun w' hw => ?_) ?_; rotate_left 1; (obtain ⟨hbc, _⟩ := bcell hw; go_simp; rfl); simp only [Act.put, List.setIfInBounds_toArray, List.set_cons_zero, List.set_cons_succ])
                  | (refine' Seg.skip ?_ ?_; (focus (first | (rw [Seg.wanted1 rfl rfl]; simp; done) | (rw [Seg.wanted2 rfl rfl]; simp; done))); simp only [Act.put, List.setIfInBounds_toArray, List.set_cons_zero, List.set_cons_succ])
                  | (refine' Seg.pick_or_if (b := _) (x := _) (G := _) (c := _) (y := _) (by first | exact Seg.wanted1 rfl rfl | exact Seg.wanted2 rfl rfl) rfl rfl rfl ?_; simp only [Act.put, List.setIfInBounds_toArray, List.set_cons_zero, List.set_cons_succ])
                  | (refine' Seg.pick_and_if (b := _) (x := _) (G := _) (c := _) (y := _) (by first | exact Seg.wanted1 rfl rfl | exact Seg.wanted2 rfl rfl) rfl rfl rfl ?_; simp only [Act.put, List.setIfInBounds_toArray, List.set_cons_zero, List.set_cons_succ])
                  | (refine' Seg.val_if (v := _) (G := _) (by first | exact Seg.wanted1 rfl rfl | exact Seg.wanted2 rfl rfl) (fun hb w' hw => ?_) ?_; rotate_left 1; (simp only [Bool.and_eq_true, beq_iff_eq] at hb; obtain ⟨hbc, _⟩ := bcell hw; go_simp; rfl); simp only [Act.put, List.setIfInBounds_toArray, List.set_cons_zero, List.set_cons_succ]))
                intro w5 hw5
                go_wp2
                go_roundw
                case rel => exact ⟨n + 1, by omega, by go_num, by simp only [sumTo, term, if_true]; exact congrArg _ (IntWalk.i64_in _ (by simp only [term, if_true] at hterm; omega)), HF1, hO.below hw5, bthen HB hw5⟩
                case measure => simp [intOf]; omega
            · have HD : Hid (decide (rd cl n ∈ fr) = !ce) := Lib.hid (by revert hmem; cases decide (rd cl n ∈ fr) <;> cases ce <;> simp)
              clear hmem
              cases ce
              all_goals
                go_wp2_with (go_at_call 54; refine (contains_any B0 d0 fr _ _ (hk0.below HB).h0).mono ?_; rintro e w' ⟨rfl, rfl⟩; rw [HD.out])
                go_ret
                exact ⟨ret_bool (fits_not hlt HD.out).symm, HB'⟩
          · obtain rfl : n = cl.length := by omega
            obtain ⟨lx, cx, fx⟩ := X0.below HB
            obtain ⟨ly, cy, fy⟩ := Y0.below HB
            have hgl := gamesTo_le q ce cl q.games.length
            have hsum := sumTo_bd HG.out ce (highTo q q.games.length) cl hhigh.1 (by omega) hdp hset.out cl.length (by omega)
            obtain ⟨_, hO2⟩ := And.intro hO.len hO.row
            obtain ⟨C1, C2, C3, C4, C5⟩ := HC.out
            have HR := Lib.hid (fits_rest (gs := gs) C1 C2 C3 C4 C5 HF.out)
            clear C1 C2 C3 C4 C5
            cases ce
            · go_wp2_with (go_at_call 56; refine (equal_any A c (gamesTo q false cl q.games.length) B2 d2 gs _ hO2 (hk0.below HB).h2).mono ?_; rintro e w' ⟨rfl, hb9⟩)
              all_goals
                go_ret
                refine ⟨ret_bool ?_, bthen HB' hb9⟩
                rw [HR.out]
                rename_i h
              · rw [decide_eq_true h, h]
                simp only [Bool.true_and]
                exact decide_eq_decide.2 (by simp only [Bool.false_eq_true, if_false]; omega)
              · rw [decide_eq_false h, Bool.false_and]
            · go_wp2_with (go_at_call 56; refine (equal_any A c (gamesTo q true cl q.games.length) B2 d2 gs _ hO2 (hk0.below HB).h2).mono ?_; rintro e w' ⟨rfl, hb9⟩)
              all_goals
                go_ret
                refine ⟨ret_bool ?_, bthen HB' hb9⟩
                rw [HR.out]
                rename_i h
              · rw [decide_eq_true h, h]
                simp only [Bool.true_and]
                exact decide_eq_decide.2 (by simp only [if_true]; omega)
              · rw [decide_eq_false h, Bool.false_and]
  · go_wp2
    go_ret
    refine ⟨ret_bool ?_, hB1⟩
    have := HC.out
    simp only [Bool.true_eq_false, false_iff] at this
    rw [fits]
    cases h1 : halves q <;> cases h2 : isSet q fr <;> cases h3 : isSet q cl <;> simp [h1, h2, h3] at this ⊢
    intro h4 h5
    exact absurd h5 (this h4)
end Go.Proofs.Ytfmekjpmjefpmaa

/- Small functions of the reference, walked: member, same, floor, bounds, set, BySearch, completion. -/
import Derived.Test.YtfmekjpmjefpmaaWl
import Derived.Test.YtfmekjpmjefpmaaWd
set_option linter.unusedSimpArgs false
set_option linter.unusedVariables false
namespace Go.Proofs.Ytfmekjpmjefpmaa
open Go.RowKit

set_option maxHeartbeats 800000 in
theorem rmember_any (A : Option Addr) (c : Nat) (l : List Int) (x : Int) (w : World) (hl : Row (Kd.int .i64) w A l) :
    Calls Try.prog 93 #[.slice A l.length c, .int .i64 x] w fun e w' => e = .returned (.bool (decide (x ∈ l))) ∧ Below w.heap.size w w' := by
  have hm := hl.1
  go_enter Try.func93, Try.ntmps93
  go_wp2
  go_loopw [5] (fun i wr => ∃ k : Nat, k ≤ l.length ∧ i = .int .i64 k ∧ Hid (∀ j, j < k → rd l j ≠ x) ∧ w = wr) (fun i _ => l.length - (intOf i).toNat)
  case atStart => exact ⟨0, by omega, rfl, fun j hj => by omega, rfl⟩
  case round =>
    obtain ⟨k, hk, rfl, HN, rfl⟩ := hrel
    by_cases hlt : k < l.length
    · obtain ⟨b4, o4, rfl, hb4, hel, wl⟩ := hl.int_at hlt
      go_wp2
      · rename_i h
        go_ret
        exact ⟨ret_bool (decide_eq_true (mem_rd.2 ⟨k, hlt, by simpa using h⟩)).symm, Below.refl _ _⟩
      · rename_i h
        go_roundw
        case rel =>
          refine ⟨k + 1, by omega, by go_num, fun j hj => ?_, trivial⟩
          rcases Nat.lt_or_ge j k with h' | h'
          · exact HN.out j h'
          · obtain rfl : j = k := by omega
            simpa using h
        case measure => simp [intOf]; omega
    · go_wp2
      go_ret
      obtain rfl : k = l.length := by omega
      refine ⟨ret_bool (Eq.symm (decide_eq_false fun h => ?_)), Below.refl _ _⟩
      obtain ⟨i, hi, h⟩ := mem_rd.1 h
      exact HN.out i hi h

set_option maxHeartbeats 800000 in
theorem rsame_any (A : Option Addr) (c : Nat) (l : List Int) (B : Option Addr) (d : Nat) (k : List Int) (w : World) (hl : Row (Kd.int .i64) w A l) (hk : Row (Kd.int .i64) w B k) :
    Calls Try.prog 74 #[.slice A l.length c, .slice B k.length d] w fun e w' => e = .returned (.bool (decide (l = k))) ∧ Below w.heap.size w w' := by
  have hm := hl.1
  have hm' := hk.1
  by_cases hlen : (l.length : Int) = k.length
  · have h0 : ((l.length : Int) == k.length) = true := by simpa using hlen
    have h1 : ((l.length : Int) != k.length) = false := by simpa using hlen
    have HL := Lib.hid hlen
    clear hlen
    go_enter Try.func74, Try.ntmps74
    go_wp2
    go_loopw [5] (fun i wr => ∃ n : Nat, n ≤ l.length ∧ i = .int .i64 n ∧ Hid (∀ j, j < n → rd l j = rd k j) ∧ Below w.heap.size w wr) (fun i _ => l.length - (intOf i).toNat)
    case atStart => exact ⟨0, by omega, rfl, fun j hj => by omega, Below.refl _ _⟩
    case round =>
      obtain ⟨n, hn, rfl, HN, HB⟩ := hrel
      by_cases hlt : n < l.length
      · obtain ⟨b, o, rfl, hb, hc, _⟩ := (hl.below HB).int_at hlt
        obtain ⟨b', o', rfl, hb', hc', _⟩ := (hk.below HB).int_at (i := n) (by have := HL.out; omega)
        have hlt' : n < k.length := by have := HL.out; omega
        go_wp2
        refine Seg.regionB (by kernel_rfl) (by kernel_rfl) ?_
        repeat (first
          | (refine' Seg.pick_or (b := _) (x := _) (c := _) (y := _) rfl rfl rfl rfl ?_; simp only [Act.put, List.setIfInBounds_toArray, List.set_cons_zero, List.set_cons_succ])
          | (refine' Seg.pick_and (b := _) (x := _) (c := _) (y := _) rfl rfl rfl rfl ?_; simp only [Act.put, List.setIfInBounds_toArray, List.set_cons_zero, List.set_cons_succ])
          | (refine' Seg.val (v := _) rfl (fun w' hw => ?_) ?_; rotate_left 1; (obtain ⟨hbc, _⟩ := bcell hw; go_simp; rfl); simp only [Act.put, List.setIfInBounds_toArray, List.set_cons_zero, List.set_cons_succ])
          | (refine' Seg.skip ?_ ?_; (focus (first | (rw [Seg.wanted1 rfl rfl]; simp; done) | (rw [Seg.wanted2 rfl rfl]; simp; done))); simp only [Act.put, List.setIfInBounds_toArray, List.set_cons_zero, List.set_cons_succ])
          | (refine' Seg.pick_or_if (b := _) (x := _) (G := _) (c := _) (y := _) (by first | exact Seg.wanted1 rfl rfl | exact Seg.wanted2 rfl rfl) rfl rfl rfl ?_; simp only [Act.put, List.setIfInBounds_toArray, List.set_cons_zero, List.set_cons_succ])
          | (refine' Seg.pick_and_if (b := _) (x := _) (G := _) (c := _) (y := _) (by first | exact Seg.wanted1 rfl rfl | exact Seg.wanted2 rfl rfl) rfl rfl rfl ?_; simp only [Act.put, List.setIfInBounds_toArray, List.set_cons_zero, List.set_cons_succ])
          | (refine' Seg.val_if (v := _) (G := _) (by first | exact Seg.wanted1 rfl rfl | exact Seg.wanted2 rfl rfl) (fun hb w' hw => ?_) ?_; rotate_left 1; (simp only [Bool.and_eq_true, beq_iff_eq] at hb; obtain ⟨hbc, _⟩ := bcell hw; go_simp; rfl); simp only [Act.put, List.setIfInBounds_toArray, List.set_cons_zero, List.set_cons_succ]))
        intro w' hw
        cases hx : (rd l n != rd k n)
        · have hx' : Hid (rd l n = rd k n) := Lib.hid (by simpa using hx)
          go_wp2
          go_roundw
          case rel =>
            refine ⟨n + 1, by omega, by go_num, fun j hj => ?_, bthen HB hw⟩
            rcases Nat.lt_or_ge j n with h' | h'
            · exact HN.out j h'
            · obtain rfl : j = n := by omega
              exact hx'.out
          case measure => simp [intOf]; omega
        · have hx' : Hid (rd l n ≠ rd k n) := Lib.hid (by simpa using hx)
          go_wp2
          go_ret
          exact ⟨ret_bool (Eq.symm (decide_eq_false (fun e => hx'.out (by rw [e])))), bthen HB hw⟩
      · obtain rfl : n = l.length := by omega
        go_wp2
        go_ret
        exact ⟨ret_bool (Eq.symm (decide_eq_true (eq_rd (by have := HL.out; omega) HN.out))), HB⟩
  · have h0 : ((l.length : Int) == k.length) = false := by simpa using hlen
    have h1 : ((l.length : Int) != k.length) = true := by simpa using hlen
    have HL := Lib.hid hlen
    clear hlen
    go_enter Try.func74, Try.ntmps74
    go_wp2
    go_ret
    exact ⟨ret_bool (Eq.symm (decide_eq_false (fun e => HL.out (by rw [e])))), Below.refl _ _⟩

theorem floor_cases (a b : Int) (hb : 0 < b) : (a < Int.tdiv a b * b) ↔ Int.tmod a b < 0 := by
  have := Int.tmod_add_mul_tdiv a b
  have := Int.mul_comm b (Int.tdiv a b)
  omega

set_option maxHeartbeats 800000 in
theorem rfloor_any (a b : Int) (w : World) (ha : -1000000 ≤ a) (ha' : a ≤ 1000000) (hb : 0 < b) (hb' : b ≤ 999) :
    Calls Try.prog 94 #[.int .i64 a, .int .i64 b] w fun e w' => e = .returned (.int .i64 (floorI a b)) ∧ w = w' := by
  have ht := tdiv_bd a b 1000000 ha ha' hb
  have hm0 := Int.tmod_add_mul_tdiv a b
  have hm1 : (Int.tmod a b).natAbs < b.natAbs := by rw [Int.natAbs_tmod]; exact Nat.mod_lt _ (by omega)
  have hw1 : IntKind.i64.wrap (Int.tdiv a b * b) = Int.tdiv a b * b := IntWalk.i64_in _ (by
    have := Int.mul_comm b (Int.tdiv a b)
    omega)
  have hw2 : IntKind.i64.wrap (Int.tdiv a b) = Int.tdiv a b := IntWalk.i64_in _ (by omega)
  have hw3 : IntKind.i64.wrap (Int.tdiv a b - 1) = Int.tdiv a b - 1 := IntWalk.i64_in _ (by omega)
  have HF := Lib.hid (floor_cases a b hb)
  clear ht hm0 hm1
  go_enter Try.func94, Try.ntmps94
  go_wp2
  all_goals go_ret
  · exact ⟨ret_int (by rw [floorI, if_pos (HF.out.1 (by assumption))]), rfl⟩
  · exact ⟨ret_int (by rw [floorI, if_neg (fun h => absurd (HF.out.2 h) (by omega))]), rfl⟩

theorem rbySearch_any (m : RaceM) (w : World) : Calls Try.prog 46 #[m.v] w fun e w' => e = .returned (.bool (bySearch m.q)) ∧ Below w.heap.size w w' := by
  obtain ⟨q, A2, c2, A3, c3, A4, c4⟩ := m
  dsimp only [RaceM.v] at *
  go_enter Try.func46, Try.ntmps46
  go_wp2
  go_ret
  exact ⟨ret_bool (by simp [bySearch]), balloc0 _ _⟩

def complB (q : Race) (o : List Int) : Bool := decide (∀ i, i < o.length → badOut (rd o i) = false) && ((o.length : Int) == q.games.length)

set_option maxHeartbeats 800000 in
theorem rcompletion_any (m : RaceM) (B : Option Addr) (d : Nat) (o : List Int) (w : World) (ho : Row (Kd.int .i64) w B o) :
    Calls Try.prog 70 #[m.v, .slice B o.length d] w fun e w' => e = .returned (.bool (complB m.q o)) ∧ Below w.heap.size w w' := by
  obtain ⟨q, A2, c2, A3, c3, A4, c4⟩ := m
  dsimp only [RaceM.v] at *
  have hm := ho.1
  go_enter Try.func70, Try.ntmps70
  go_upto_region 1 with (fail)
  obtain ⟨W0, hW0, hB0, X0⟩ := box1 w #[.int .i64 q.win, .int .i64 q.draw, .slice A2 q.clubs.length c2, .slice A3 q.points.length c3, .slice A4 q.games.length c4, .int .i64 q.club, .int .i64 q.place] 25
  rw [hW0]
  clear hW0
  have ho0 := ho.below hB0
  obtain ⟨lx, cx, fx⟩ := id X0
  go_wp2
  go_loopw [5] (fun i wr => ∃ k : Nat, k ≤ o.length ∧ i = .int .i64 k ∧ Hid (∀ j, j < k → badOut (rd o j) = false) ∧ W0 = wr) (fun i _ => o.length - (intOf i).toNat)
  case atStart => exact ⟨0, by omega, rfl, fun j hj => by omega, rfl⟩
  case round =>
    obtain ⟨k, hk, rfl, HN, rfl⟩ := hrel
    by_cases hlt : k < o.length
    · obtain ⟨b4, o4, rfl, hb4, hel, wl⟩ := ho0.int_at hlt
      have hbad : Hid (∀ b, badOut (rd o k) = b → badOut (rd o k) = b) := Lib.hid (fun b h => h)
      go_wp2
      all_goals first
        | (go_roundw
           case rel => exact ⟨k + 1, by omega, by go_num, Lib.hid (upto (p := fun i => badOut (rd o i)) HN.out (by simp [badOut]; omega)), trivial⟩
           case measure => simp [intOf]; omega)
        | (go_ret
           refine ⟨ret_bool (Eq.symm ?_), hB0⟩
           rw [complB, decide_eq_false (fun h => absurd (h k hlt) (by simp [badOut]; omega))]
           rfl)
    · obtain rfl : k = o.length := by omega
      go_wp2
      go_ret
      refine ⟨ret_bool ?_, hB0⟩
      rw [complB, decide_eq_true HN.out]
      rfl

set_option maxHeartbeats 4000000 in
set_option maxRecDepth 100000 in
theorem rset_any (m : RaceM) (A : Option Addr) (c : Nat) (l : List Int) (w : World) (hl : Row (Kd.int .i64) w A l) (hq : m.q.clubs.length ≤ 24) :
    Calls Try.prog 91 #[m.v, .slice A l.length c] w fun e w' => e = .returned (.bool (isSet m.q l)) ∧ Below w.heap.size w w' := by
  obtain ⟨q, A2, c2, A3, c3, A4, c4⟩ := m
  dsimp only [RaceM.v] at *
  have hm := hl.1
  go_enter Try.func91, Try.ntmps91
  go_upto_region 1 with (fail)
  obtain ⟨W0, hW0, hB0, X0⟩ := box1 w #[.int .i64 q.win, .int .i64 q.draw, .slice A2 q.clubs.length c2, .slice A3 q.points.length c3, .slice A4 q.games.length c4, .int .i64 q.club, .int .i64 q.place] 25
  rw [hW0]
  clear hW0
  have hl0 := hl.below hB0
  go_wp2
  go_loopw [5] (fun i wr => ∃ k : Nat, k ≤ l.length ∧ i = .int .i64 k ∧ Hid (SetP q.clubs.length q.club l k) ∧ Below W0.heap.size W0 wr) (fun i _ => l.length - (intOf i).toNat)
  case atStart => exact ⟨0, by omega, rfl, fun i hi => by omega, Below.refl _ _⟩
  case round =>
    obtain ⟨k, hk, rfl, HS, HB⟩ := hrel
    by_cases hlt : k < l.length
    · obtain ⟨b, o, rfl, hb, hc, hw⟩ := (hl0.below HB).int_at hlt
      obtain ⟨lx, cx, fx⟩ := X0.below HB
      clear hw
      rcases Nat.eq_zero_or_pos k with h0 | h0
      · subst h0
        have HP : Hid ((0 : Nat) = 0) := Lib.hid rfl
        simp only [Nat.add_zero] at hc
        go_wp2
        refine Seg.regionB (by kernel_rfl) (by kernel_rfl) ?_
        repeat (first
          | (refine' Seg.pick_or (b := _) (x := _) (c := _) (y := _) rfl rfl rfl rfl ?_; simp only [Act.put, List.setIfInBounds_toArray, List.set_cons_zero, List.set_cons_succ])
          | (refine' Seg.pick_and (b := _) (x := _) (c := _) (y := _) rfl rfl rfl rfl ?_; simp only [Act.put, List.setIfInBounds_toArray, List.set_cons_zero, List.set_cons_succ])
          | (refine' Seg.val (v := _) rfl (fun w' hw => ?_) ?_; rotate_left 1; (obtain ⟨hbc, _⟩ := bcell hw; go_simp; rfl); simp only [Act.put, List.setIfInBounds_toArray, List.set_cons_zero, List.set_cons_succ])
          | (refine' Seg.skip ?_ ?_; (focus (first | (rw [Seg.wanted1 rfl rfl]; simp; done) | (rw [Seg.wanted2 rfl rfl]; simp; done))); simp only [Act.put, List.setIfInBounds_toArray, List.set_cons_zero, List.set_cons_succ])
          | (refine' Seg.pick_or_if (b := _) (x := _) (G := _) (c := _) (y := _) (by first | exact Seg.wanted1 rfl rfl | exact Seg.wanted2 rfl rfl) rfl rfl rfl ?_; simp only [Act.put, List.setIfInBounds_toArray, List.set_cons_zero, List.set_cons_succ])
          | (refine' Seg.pick_and_if (b := _) (x := _) (G := _) (c := _) (y := _) (by first | exact Seg.wanted1 rfl rfl | exact Seg.wanted2 rfl rfl) rfl rfl rfl ?_; simp only [Act.put, List.setIfInBounds_toArray, List.set_cons_zero, List.set_cons_succ])
          | (refine' Seg.val_if (v := _) (G := _) (by first | exact Seg.wanted1 rfl rfl | exact Seg.wanted2 rfl rfl) (fun hb w' hw => ?_) ?_; rotate_left 1; (simp only [Bool.and_eq_true, beq_iff_eq] at hb; obtain ⟨hbc, _⟩ := bcell hw; go_simp; rfl); simp only [Act.put, List.setIfInBounds_toArray, List.set_cons_zero, List.set_cons_succ]))
        intro w3 hw3
        clear lx cx fx hc
        repeat ((conv in Seg.opt _ _ => skip); generalize Seg.opt _ _ = u)
        generalize hcd : (((_ || _) || _) || _) = cd
        have HX := Lib.hid hcd
        clear hcd
        cases cd
        · go_wp2
          go_roundw
          case rel =>
            refine ⟨0 + 1, by omega, by go_num, Lib.hid (HS.out.step ?_ ?_ ?_ (fun h => by omega)), bthen HB hw3⟩
            all_goals (have h := HX.out; simp at h; omega)
          case measure => simp [intOf]; omega
        · go_wp2
          go_ret
          refine ⟨ret_bool (Eq.symm (decide_eq_false (fun h => ?_))), bthen hB0 (bthen HB hw3)⟩
          have h' := h 0 hlt
          have h := HX.out
          simp at h
          omega
      · obtain ⟨p, hp⟩ : ∃ p : Nat, k = p + 1 := ⟨k - 1, by omega⟩
        have hlp : p < l.length := by omega
        have hw1 : IntKind.i64.wrap ((k:Int) - 1) = (p : Int) := by rw [IntWalk.i64_in _ (by omega)]; omega
        have HP := Lib.hid hp
        clear hp
        obtain ⟨b', o', e', hb', hc', hw'⟩ := (hl0.below HB).int_at (i := p) hlp
        cases e'
        clear hw'
        go_wp2
        refine Seg.regionB (by kernel_rfl) (by kernel_rfl) ?_
        repeat (first
          | (refine' Seg.pick_or (b := _) (x := _) (c := _) (y := _) rfl rfl rfl rfl ?_; simp only [Act.put, List.setIfInBounds_toArray, List.set_cons_zero, List.set_cons_succ])
          | (refine' Seg.pick_and (b := _) (x := _) (c := _) (y := _) rfl rfl rfl rfl ?_; simp only [Act.put, List.setIfInBounds_toArray, List.set_cons_zero, List.set_cons_succ])
          | (refine' Seg.val (v := _) rfl (fun w' hw => ?_) ?_; rotate_left 1; (obtain ⟨hbc, _⟩ := bcell hw; go_simp; rfl); simp only [Act.put, List.setIfInBounds_toArray, List.set_cons_zero, List.set_cons_succ])
          | (refine' Seg.skip ?_ ?_; (focus (first | (rw [Seg.wanted1 rfl rfl]; simp; done) | (rw [Seg.wanted2 rfl rfl]; simp; done))); simp only [Act.put, List.setIfInBounds_toArray, List.set_cons_zero, List.set_cons_succ])
          | (refine' Seg.pick_or_if (b := _) (x := _) (G := _) (c := _) (y := _) (by first | exact Seg.wanted1 rfl rfl | exact Seg.wanted2 rfl rfl) rfl rfl rfl ?_; simp only [Act.put, List.setIfInBounds_toArray, List.set_cons_zero, List.set_cons_succ])
          | (refine' Seg.pick_and_if (b := _) (x := _) (G := _) (c := _) (y := _) (by first | exact Seg.wanted1 rfl rfl | exact Seg.wanted2 rfl rfl) rfl rfl rfl ?_; simp only [Act.put, List.setIfInBounds_toArray, List.set_cons_zero, List.set_cons_succ])
          | (refine' Seg.val_if (v := _) (G := _) (by first | exact Seg.wanted1 rfl rfl | exact Seg.wanted2 rfl rfl) (fun hb w' hw => ?_) ?_; rotate_left 1; (simp only [Bool.and_eq_true, beq_iff_eq] at hb; obtain ⟨hbc, _⟩ := bcell hw; go_simp; rfl); simp only [Act.put, List.setIfInBounds_toArray, List.set_cons_zero, List.set_cons_succ]))
        intro w3 hw3
        clear lx cx fx hc hc'
        repeat ((conv in Seg.opt _ _ => skip); generalize Seg.opt _ _ = u)
        generalize hcd : (((_ || _) || _) || _) = cd
        have HX := Lib.hid hcd
        clear hcd
        cases cd
        · go_wp2
          go_roundw
          case rel =>
            refine ⟨k + 1, by omega, by go_num, Lib.hid (HS.out.step ?_ ?_ ?_ (fun h => ?_)), bthen HB hw3⟩
            all_goals (have h := HX.out; have hp := HP.out; subst hp; simp at h ⊢; omega)
          case measure => simp [intOf]; omega
        · go_wp2
          go_ret
          refine ⟨ret_bool (Eq.symm (decide_eq_false (fun h => ?_))), bthen hB0 (bthen HB hw3)⟩
          have h' := h k hlt
          have h := HX.out
          have hp := HP.out
          subst hp
          simp at h h'
          omega
    · obtain rfl : k = l.length := by omega
      go_wp2
      go_ret
      exact ⟨ret_bool (Eq.symm (decide_eq_true HS.out)), bthen hB0 HB⟩

set_option maxHeartbeats 4000000 in
set_option maxRecDepth 100000 in
theorem rbounds_any (m : RaceM) (w : World) (hq : RaceIn w m) (hg : Good m.q) :
    Calls Try.prog 92 #[m.v] w fun e w' => e = .returned (.tuple #[.int .i64 (low m.q), .int .i64 (highTo m.q m.q.games.length)]) ∧ Below w.heap.size w w' := by
  obtain ⟨q, A2, c2, A3, c3, A4, c4⟩ := m
  dsimp only [RaceM.v] at *
  have i0 : 0 ≤ q.club := hg.c0
  have i1 : q.club < q.points.length := by have := hg.pl; have := hg.c1; omega
  have hg1 := hg.g1
  have hw1 := hg.w1
  have hw0 : 0 ≤ q.win := by have := hg.d0; have := hg.d1; omega
  have HG := Lib.hid hg
  clear hg
  go_enter Try.func92, Try.ntmps92
  go_upto_region 1 with (fail)
  obtain ⟨W0, hW0, hB0, X0⟩ := box1 w #[.int .i64 q.win, .int .i64 q.draw, .slice A2 q.clubs.length c2, .slice A3 q.points.length c3, .slice A4 q.games.length c4, .int .i64 q.club, .int .i64 q.place] 25
  rw [hW0]
  clear hW0
  have hq0 := hq.below hB0
  obtain ⟨lx, cx, fx⟩ := id X0
  obtain ⟨b, o, e, hb, hc, hwf⟩ := hq0.h3.int_at (i := q.club.toNat) (by dsimp only; omega)
  dsimp only at e hc
  subst e
  clear hwf
  go_wp2
  clear lx cx fx
  go_loopw [5, 6] (fun v5 v6 wr => ∃ k : Nat, k ≤ q.games.length ∧ v6 = .int .i64 k ∧ v5 = .int .i64 (highTo q k) ∧ Below W0.heap.size W0 wr) (fun _ i _ => q.games.length - (intOf i).toNat)
  case atStart => exact ⟨0, by omega, rfl, rfl, Below.refl _ _⟩
  case round =>
    obtain ⟨k, hk, rfl, rfl, HB⟩ := hrel
    obtain ⟨lx, cx, fx⟩ := X0.below HB
    by_cases hlt : k < q.games.length
    · obtain ⟨b4, o4, e4, hb4, hel, her, wl, wr'⟩ := (hq0.below HB).h4.edge_at hlt
      dsimp only at e4
      subst e4
      have hbd := highTo_bd HG.out k hk
      go_wp2
      refine Seg.regionB (by kernel_rfl) (by kernel_rfl) ?_
      repeat (first
        | (refine' Seg.pick_or (b := _) (x := _) (c := _) (y := _) rfl rfl rfl rfl ?_; simp only [Act.put, List.setIfInBounds_toArray, List.set_cons_zero, List.set_cons_succ])
        | (refine' Seg.pick_and (b := _) (x := _) (c := _) (y := _) rfl rfl rfl rfl ?_; simp only [Act.put, List.setIfInBounds_toArray, List.set_cons_zero, List.set_cons_succ])
        | (refine' Seg.val (v := _) rfl (fun w' hw => ?_) ?_; rotate_left 1; (obtain ⟨hbc, _⟩ := bcell hw; go_simp; rfl); simp only [Act.put, List.setIfInBounds_toArray, List.set_cons_zero, List.set_cons_succ])
        | (refine' Seg.skip ?_ ?_; (focus (first | (rw [Seg.wanted1 rfl rfl]; simp; done) | (rw [Seg.wanted2 rfl rfl]; simp; done))); simp only [Act.put, List.setIfInBounds_toArray, List.set_cons_zero, List.set_cons_succ])
        | (refine' Seg.pick_or_if (b := _) (x := _) (G := _) (c := _) (y := _) (by first | exact Seg.wanted1 rfl rfl | exact Seg.wanted2 rfl rfl) rfl rfl rfl ?_; simp only [Act.put, List.setIfInBounds_toArray, List.set_cons_zero, List.set_cons_succ])
        | (refine' Seg.pick_and_if (b := _) (x := _) (G := _) (c := _) (y := _) (by first | exact Seg.wanted1 rfl rfl | exact Seg.wanted2 rfl rfl) rfl rfl rfl ?_; simp only [Act.put, List.setIfInBounds_toArray, List.set_cons_zero, List.set_cons_succ])
        | (refine' Seg.val_if (v := _) (G := _) (by first | exact Seg.wanted1 rfl rfl | exact Seg.wanted2 rfl rfl) (fun hb w' hw => ?_) ?_; rotate_left 1; (simp only [Bool.and_eq_true, beq_iff_eq] at hb; obtain ⟨hbc, _⟩ := bcell hw; go_simp; rfl); simp only [Act.put, List.setIfInBounds_toArray, List.set_cons_zero, List.set_cons_succ]))
      intro w3 hw3
      clear lx cx fx hel her hb4
      have HB3 := bthen HB hw3
      obtain ⟨lx, cx, fx⟩ := X0.below HB3
      repeat ((conv in Seg.opt _ _ => skip); generalize Seg.opt _ _ = u)
      generalize hcd : (_ || _) = cd
      have HX : Hid (highTo q (k + 1) = highTo q k + if cd = true then q.win else 0) := Lib.hid (by rw [← hcd, highTo]; simp)
      clear hcd
      cases cd
      all_goals
        go_wp2
        go_roundw
        case rel => exact ⟨k + 1, by omega, by go_num, by rw [HX.out]; simp, HB3⟩
        case measure => simp [intOf]; omega
    · obtain rfl : k = q.games.length := by omega
      go_wp2
      exact bodyPost_ret (results_tmp2 rfl _ _ _) rfl ⟨rfl, bthen hB0 HB⟩
end Go.Proofs.Ytfmekjpmjefpmaa

/- cuts, walked. -/
import Derived.Test.YtfmekjpmjefpmaaWp
set_option linter.unusedSimpArgs false
set_option linter.unusedVariables false
namespace Go.Proofs.Ytfmekjpmjefpmaa
open Go.RowKit Go.Shelf
attribute [local go_sem] Oper.semAt_some

def rdC (xs : List Cut) (i : Nat) : Cut := xs.getD i ⟨[], [], []⟩
theorem rdC_get {xs : List Cut} {i : Nat} (h : i < xs.length) : xs[i]? = some (rdC xs i) := by
  rw [rdC, List.getD_eq_getElem?_getD, List.getElem?_eq_getElem h]; rfl
theorem Row.cut_head {w : World} {A : Option Addr} {xs : List Cut} (h : Row Kd.cut w A xs) (hi : 0 < xs.length) :
    ∃ b o A0 c0 A1 c1 A2 c2, A = some ⟨b, o, none⟩ ∧ b < w.heap.size ∧ w.cell? ⟨b, o, none⟩ = some (.slice A0 (rdC xs 0).free.length c0) ∧ w.cell? ⟨b, o + 1, none⟩ = some (.slice A1 (rdC xs 0).clubs.length c1) ∧ w.cell? ⟨b, o + 2, none⟩ = some (.slice A2 (rdC xs 0).games.length c2) ∧
      CutIn w ⟨rdC xs 0, A0, c0, A1, c1, A2, c2⟩ ∧ (rdC xs 0).free.length ≤ c0 := by
  obtain ⟨b, o, rfl, hlt, hc⟩ := h.2 (by intro e; rw [e] at hi; simp at hi)
  obtain ⟨cs, ⟨s1, s2, rfl, ⟨A0, c0, rfl, hl0, h0⟩, ⟨t1, t2, rfl, ⟨A1, c1, rfl, hl1, h1⟩, ⟨A2, c2, rfl, hl2, h2⟩⟩⟩, hcs⟩ := hc 0 _ (rdC_get hi)
  refine ⟨b, o, A0, c0, A1, c1, A2, c2, rfl, hlt, ?_, ?_, ?_, ⟨h0, h1, h2⟩, hl0⟩
  · have := hcs 0 _ rfl
    simpa [Kd.cut, Kd.iso, Kd.pair, Kd.slice] using this
  · have := hcs 1 _ rfl
    simpa [Kd.cut, Kd.iso, Kd.pair, Kd.slice] using this
  · have := hcs 2 _ rfl
    simpa [Kd.cut, Kd.iso, Kd.pair, Kd.slice] using this
/-- The rest of a row behind its first element. -/
theorem Row.rest {α : Type} {d : Kd α} {w : World} {A : Option Addr} {xs : List α} (h : Row d w A xs) (c : Nat) (hc : xs.length ≤ c) : Row d w (if c = 1 then A else A.map (·.add d.sz)) (xs.drop 1) := by
  refine ⟨by have := h.1; rw [List.length_drop]; omega, fun hne => ?_⟩
  have hk : 1 < xs.length := by
    rcases Nat.lt_or_ge 1 xs.length with h' | h'
    · exact h'
    · exact absurd (List.drop_eq_nil_of_le h') hne
  rw [if_neg (by omega)]
  obtain ⟨b, o, rfl, hlt, hcs⟩ := h.2 (by intro e; rw [e] at hk; simp at hk)
  refine ⟨b, o + d.sz, by simp [Addr.add_lit], hlt, fun i x hx => ?_⟩
  rw [List.getElem?_drop] at hx
  obtain ⟨cs, hK, hcell⟩ := hcs _ x hx
  refine ⟨cs, hK, fun j u hu => ?_⟩
  have := hcell j u hu
  rw [show o + d.sz + (i * d.sz + j) = o + ((1 + i) * d.sz + j) by rw [Nat.add_mul]; omega]
  exact this

theorem box4 (w : World) (C D E G : Array Value) (t u v x : TypeId) : ∃ W0, (((w.alloc (.cells C t)).alloc (.cells D u)).alloc (.cells E v)).alloc (.cells G x) = W0 ∧ Below w.heap.size w W0 ∧ Box W0 w.heap.size C ∧ Box W0 (w.heap.size + 1) D ∧ Box W0 (w.heap.size + 1 + 1) E ∧ Box W0 (w.heap.size + 1 + 1 + 1) G ∧ W0.heap.size = w.heap.size + 4 := by
  obtain ⟨W1, h1, h2, h3, h4, h5⟩ := box3 w C D E t u v
  have hs : W1.heap.size = w.heap.size + 1 + 1 + 1 := by rw [← h1]; simp
  obtain ⟨W2, k1, k2, k3⟩ := box1 W1 G x
  rw [hs] at k3
  refine ⟨W2, by rw [h1, k1], bthen h2 k2, h3.below k2, h4.below k2, h5.below k2, k3, by rw [← k1]; simp; omega⟩

def cutOk (q : Race) (ce : Bool) (L : List Cut) (i : Nat) : Bool := decide (i < L.length) && (decide ((rdC L i).free = (setsOf q (size q ce).toNat).getD i []) && fits q ce (rdC L i))
def cutsB (q : Race) (ce : Bool) (L : List Cut) : Bool := decide (∀ i, i < (setsOf q (size q ce).toNat).length → cutOk q ce L i = true) && decide (L.length ≤ (setsOf q (size q ce).toNat).length)

set_option maxHeartbeats 8000000 in
set_option maxRecDepth 100000 in
theorem cuts_any (m : RaceM) (ce : Bool) (B : Option Addr) (d : Nat) (L : List Cut) (w : World) (hq : RaceIn w m) (hL : Row Kd.cut w B L) (hd : L.length ≤ d) (hg : Good m.q) :
    Calls Try.prog 67 #[m.v, .bool ce, .slice B L.length d] w fun e w' => e = .returned (.bool (cutsB m.q ce L)) ∧ Below w.heap.size w w' := by
  obtain ⟨q, A2, c2, A3, c3, A4, c4⟩ := m
  dsimp only [RaceM.v] at *
  have hLm := hL.1
  have hp0 := hg.p0
  have hp1 : q.place ≤ 24 := by have := hg.p1; have := hg.n1; omega
  have hn := hg.n1
  have HG := Lib.hid hg
  clear hg
  have hz0 : 0 ≤ size q ce := by unfold size; split <;> omega
  have hz1 : size q ce ≤ 24 := by unfold size; split <;> omega
  obtain ⟨s, hs⟩ := Int.eq_ofNat_of_zero_le hz0
  have HSz := Lib.hid hs
  have hs24 : s ≤ 1000 := by omega
  clear hz0 hz1 hs
  generalize hres : (Ending.returned (.bool (cutsB q ce L))) = R
  have HRes := Lib.hid hres
  clear hres
  refine (callsIn_wide (n := 0)).1 (callsIn_of_wp_marks Try.func67 rfl trivial (wpIn_wide.2 ?_) rfl)
  simp only [Try.ntmps67, List.size_toArray, List.length_cons, List.length_nil, Nat.reduceAdd, Nat.reduceSub, Array.replicate_succ, Array.replicate_zero, List.push_toArray, List.append_toArray, List.nil_append, List.cons_append]
  go_upto_region 1 with (fail)
  obtain ⟨W0, hW0, hB0, X0, E0, L0, R0, hsz0⟩ := box4 w #[.int .i64 q.win, .int .i64 q.draw, .slice A2 q.clubs.length c2, .slice A3 q.points.length c3, .slice A4 q.games.length c4, .int .i64 q.club, .int .i64 q.place] #[.bool ce] #[.slice B L.length d] #[.bool false] 53 4 26 4
  rw [hW0]
  clear hW0
  have HS0 := Lib.hid hsz0
  clear hsz0
  obtain ⟨lx, cx, fx⟩ := id X0
  obtain ⟨le, xe, fe⟩ := id E0
  refine Seg2.region 4 5 (by kernel_rfl) (by kernel_rfl) (by kernel_rfl) (by kernel_rfl) ?_
  repeat (first
    | (refine' Seg2.pick_or (b := _) (x := _) (c := _) (y := _) rfl rfl rfl rfl ?_; simp only [Act.put, List.setIfInBounds_toArray, List.set_cons_zero, List.set_cons_succ])
    | (refine' Seg2.pick_and (b := _) (x := _) (c := _) (y := _) rfl rfl rfl rfl ?_; simp only [Act.put, List.setIfInBounds_toArray, List.set_cons_zero, List.set_cons_succ])
    | (refine' Seg2.val (v := _) rfl (fun w' hw => ?_) ?_; rotate_left 1; (obtain ⟨hbc, _⟩ := bcell hw; go_simp; rfl); simp only [Act.put, List.setIfInBounds_toArray, List.set_cons_zero, List.set_cons_succ])
    | (refine' Seg2.skip ?_ ?_; (focus (first | (rw [Seg.wanted1 rfl rfl]; simp; done) | (rw [Seg.wanted2 rfl rfl]; simp; done))); simp only [Act.put, List.setIfInBounds_toArray, List.set_cons_zero, List.set_cons_succ])
    | (refine' Seg2.pick_or_if (b := _) (x := _) (G := _) (c := _) (y := _) (by first | exact Seg.wanted1 rfl rfl | exact Seg.wanted2 rfl rfl) rfl rfl rfl ?_; simp only [Act.put, List.setIfInBounds_toArray, List.set_cons_zero, List.set_cons_succ])
    | (refine' Seg2.pick_and_if (b := _) (x := _) (G := _) (c := _) (y := _) (by first | exact Seg.wanted1 rfl rfl | exact Seg.wanted2 rfl rfl) rfl rfl rfl ?_; simp only [Act.put, List.setIfInBounds_toArray, List.set_cons_zero, List.set_cons_succ])
    | (refine' Seg2.val_if (v := _) (G := _) (by first | exact Seg.wanted1 rfl rfl | exact Seg.wanted2 rfl rfl) (fun hb w' hw => ?_) ?_; rotate_left 1; (simp only [Bool.and_eq_true, beq_iff_eq] at hb; obtain ⟨hbc, _⟩ := bcell hw; go_simp; rfl); simp only [Act.put, List.setIfInBounds_toArray, List.set_cons_zero, List.set_cons_succ]))
  refine' Seg2.call (v := _) (f := _) (args := _) rfl (fun w' => ?_) (fun w' hw => (size_any ⟨q, A2, c2, A3, c3, A4, c4⟩ ce w' hp0 hp1)) ?_
  · go_simp
  simp only [Act.put, List.setIfInBounds_toArray, List.set_cons_zero, List.set_cons_succ]
  refine Seg2.done (Seg2.spec_cons (by simp [Region.wanted]) (fun w1 hb1 => ?_))
  rw [HSz.out]
  refine Seg2.some_call (f := 88) (args := #[.agg #[.int .i64 q.win, .int .i64 q.draw, .slice A2 q.clubs.length c2, .slice A3 q.points.length c3, .slice A4 q.games.length c4, .int .i64 q.club, .int .i64 q.place], .int .i64 s]) (w := w1) (by go_simp) ((sets_any ⟨q, A2, c2, A3, c3, A4, c4⟩ s w1).mono ?_)
  rintro e w' ⟨rfl, hw'⟩
  dsimp only [raceCells] at hw'
  obtain ⟨W1, hW1, hB1, X1, Y1⟩ := box2 w1 #[.int .i64 q.win, .int .i64 q.draw, .slice A2 q.clubs.length c2, .slice A3 q.points.length c3, .slice A4 q.games.length c4, .int .i64 q.club, .int .i64 q.place] #[.int .i64 s] 53 3
  rw [hW1] at hw'
  subst hw'
  refine ⟨_, rfl, bthen hb1 hB1, ?_⟩
  simp only [Act.put, List.setIfInBounds_toArray, List.set_cons_zero, List.set_cons_succ]
  refine Seg2.spec_nil (fun w2 hb2 => ?_)
  simp only [List.drop]
  clear lx cx fx le xe fe
  gi_wp2
  go_wp2
  have hB2 := bthen (bthen hb1 hB1) hb2
  have HB2 := bthen hB0 hB2
  have hsz1 : w.heap.size + 4 ≤ w1.heap.size := by have := HS0.out; have := hb1.size; omega
  have hsz2 : w1.heap.size + 2 ≤ w2.heap.size := by have := Y1.lt; have := hb2.size; omega
  have hcl : q.clubs.length ≤ 24 := hn
  refine (wpIn_wide (n := 0)).1 ?_
  have h00 : (0 : Int) = ((0 : Nat) : Int) := rfl
  refine' range_law (p := 13) rfl (enters_of Try.func102 (by kernel_rfl) rfl) (sets_seq q A2 A3 A4 c2 c3 c4 s w1.heap.size (w1.heap.size + 1) hn hs24) (fun V hb => ⟨(X1.below hb2).below hb, (Y1.below hb2).below hb⟩) (fun b => b = w.heap.size + 1 + 1 ∨ b = w.heap.size + 1 + 1 + 1) (fun b hb => by omega) (fun b hb => by omega)
    (fun k W => (∃ A' c', Box W (w.heap.size + 1 + 1) #[.slice A' (L.drop k).length c'] ∧ (L.drop k).length ≤ c' ∧ Row Kd.cut w A' (L.drop k)) ∧ Hid (∀ i, i < k → cutOk q ce L i = true) ∧ Box W (w.heap.size + 1 + 1 + 1) #[.bool false] ∧ Below w.heap.size w W ∧ Box W w.heap.size #[.int .i64 q.win, .int .i64 q.draw, .slice A2 q.clubs.length c2, .slice A3 q.points.length c3, .slice A4 q.games.length c4, .int .i64 q.club, .int .i64 q.place] ∧ Box W (w.heap.size + 1) #[.bool ce])
    (fun c W => c = .ret ∧ Box W (w.heap.size + 1 + 1 + 1) #[.bool false] ∧ Hid (∃ i, i < (setsOf q s).length ∧ cutOk q ce L i = false) ∧ Below w.heap.size w W)
    (fun k V1 V2 ⟨⟨A', c', h1, h1'⟩, h2, h3, h4, h5, h6⟩ hs hb => ⟨⟨A', c', h1.belowN' hb (by omega), h1'⟩, h2, h3.belowN' hb (by omega), h4.trans (hb.mono (by omega)), h5.belowN' hb (by omega), h6.belowN' hb (by omega)⟩)
    (fun c V1 V2 ⟨h1, h2, h3, h4⟩ hs hb => ⟨h1, h2.belowN' hb (by omega), h3, h4.trans (hb.mono (by omega))⟩)
    ⟨⟨B, d, L0.below hB2, hd, hL⟩, fun i hi => by omega, R0.below hB2, HB2, X0.below hB2, E0.below hB2⟩ _ ?_ ?_ ?_ ?_
  rotate_left 1
  · intro l v W K hK
    simp only [List.setIfInBounds_toArray, List.set_cons_zero, List.set_cons_succ]
    gi_wp2
    exact hK
  · rintro l k x W A c hx ⟨⟨A', c', h1, h1', hr⟩, hok, hres, hbw, hX, hE⟩ hxc hrow hs
    have hkn : k < (setsOf q s).length := (List.getElem?_eq_some_iff.1 hx).1
    have HX := Lib.hid hx
    have HS2 := Lib.hid hsz1
    have HS3 := Lib.hid hsz2
    clear hx hcl h00
    obtain ⟨lx, cx, fx⟩ := id hX
    obtain ⟨le, xe, fe⟩ := id hE
    obtain ⟨lr, xr, fr⟩ := id hres
    rcases Nat.lt_or_ge k L.length with hkl | hkl
    · obtain ⟨T, hT⟩ : ∃ T, L.drop k = T := ⟨_, rfl⟩
      rw [hT] at h1 h1' hr
      have hpos : 0 < T.length := by rw [← hT, List.length_drop]; omega
      have HT0 : Hid (rdC T 0 = rdC L k) := Lib.hid (by rw [← hT]; simp [rdC, List.getD_eq_getElem?_getD])
      have HT := Lib.hid hT
      clear hT
      obtain ⟨b, o, B0, d0, B1, d1, B2, d2, rfl, hb, hf0, hf1, hf2, hci, hfl⟩ := (hr.below hbw).cut_head hpos
      have he0 : ((T.length : Int) == 0) = false := beq_eq_false_iff_ne.2 (by omega)
      obtain ⟨ll, xl, fl⟩ := id h1
      have hcl := h1.get
      gi_wp2
      refine Seg2.regionC (Seg2.wide_round l) (by kernel_rfl) (by kernel_rfl) ?_
      repeat (first
        | (refine' Seg2.pick_or (b := _) (x := _) (c := _) (y := _) rfl rfl rfl rfl ?_; simp only [Act.put, List.setIfInBounds_toArray, List.set_cons_zero, List.set_cons_succ])
        | (refine' Seg2.pick_and (b := _) (x := _) (c := _) (y := _) rfl rfl rfl rfl ?_; simp only [Act.put, List.setIfInBounds_toArray, List.set_cons_zero, List.set_cons_succ])
        | (refine' Seg2.val (v := _) rfl (fun w' hw => ?_) ?_; rotate_left 1; (obtain ⟨hbc, _⟩ := bcell hw; go_simp; rfl); simp only [Act.put, List.setIfInBounds_toArray, List.set_cons_zero, List.set_cons_succ])
        | (refine' Seg2.skip ?_ ?_; (focus (first | (rw [Seg.wanted1 rfl rfl]; simp; done) | (rw [Seg.wanted2 rfl rfl]; simp; done))); simp only [Act.put, List.setIfInBounds_toArray, List.set_cons_zero, List.set_cons_succ])
        | (refine' Seg2.pick_or_if (b := _) (x := _) (G := _) (c := _) (y := _) (by first | exact Seg.wanted1 rfl rfl | exact Seg.wanted2 rfl rfl) rfl rfl rfl ?_; simp only [Act.put, List.setIfInBounds_toArray, List.set_cons_zero, List.set_cons_succ])
        | (refine' Seg2.pick_and_if (b := _) (x := _) (G := _) (c := _) (y := _) (by first | exact Seg.wanted1 rfl rfl | exact Seg.wanted2 rfl rfl) rfl rfl rfl ?_; simp only [Act.put, List.setIfInBounds_toArray, List.set_cons_zero, List.set_cons_succ])
        | (refine' Seg2.val_if (v := _) (G := _) (by first | exact Seg.wanted1 rfl rfl | exact Seg.wanted2 rfl rfl) (fun hb w' hw => ?_) ?_; rotate_left 1; (simp only [Bool.and_eq_true, beq_iff_eq] at hb; obtain ⟨hbc, _⟩ := bcell hw; go_simp; rfl); simp only [Act.put, List.setIfInBounds_toArray, List.set_cons_zero, List.set_cons_succ]))
      refine' Seg2.call_if (v := _) (G := _) (f := _) (args := _) (by first | exact Seg.wanted1 rfl rfl | exact Seg.wanted2 rfl rfl) (fun hb w' => ?_) (fun hb w' hw => (equal_any B0 d0 (rdC T 0).free A c x w' (hci.below hw).h0 (hrow.below hw))) ?_
      · simp only [Bool.and_eq_true, beq_iff_eq] at hb
        go_simp
      simp only [Act.put, List.setIfInBounds_toArray, List.set_cons_zero, List.set_cons_succ]
      repeat (first
        | (refine' Seg2.pick_or (b := _) (x := _) (c := _) (y := _) rfl rfl rfl rfl ?_; simp only [Act.put, List.setIfInBounds_toArray, List.set_cons_zero, List.set_cons_succ])
        | (refine' Seg2.pick_and (b := _) (x := _) (c := _) (y := _) rfl rfl rfl rfl ?_; simp only [Act.put, List.setIfInBounds_toArray, List.set_cons_zero, List.set_cons_succ])
        | (refine' Seg2.val (v := _) rfl (fun w' hw => ?_) ?_; rotate_left 1; (obtain ⟨hbc, _⟩ := bcell hw; go_simp; rfl); simp only [Act.put, List.setIfInBounds_toArray, List.set_cons_zero, List.set_cons_succ])
        | (refine' Seg2.skip ?_ ?_; (focus (first | (rw [Seg.wanted1 rfl rfl]; simp; done) | (rw [Seg.wanted2 rfl rfl]; simp; done))); simp only [Act.put, List.setIfInBounds_toArray, List.set_cons_zero, List.set_cons_succ])
        | (refine' Seg2.pick_or_if (b := _) (x := _) (G := _) (c := _) (y := _) (by first | exact Seg.wanted1 rfl rfl | exact Seg.wanted2 rfl rfl) rfl rfl rfl ?_; simp only [Act.put, List.setIfInBounds_toArray, List.set_cons_zero, List.set_cons_succ])
        | (refine' Seg2.pick_and_if (b := _) (x := _) (G := _) (c := _) (y := _) (by first | exact Seg.wanted1 rfl rfl | exact Seg.wanted2 rfl rfl) rfl rfl rfl ?_; simp only [Act.put, List.setIfInBounds_toArray, List.set_cons_zero, List.set_cons_succ])
        | (refine' Seg2.val_if (v := _) (G := _) (by first | exact Seg.wanted1 rfl rfl | exact Seg.wanted2 rfl rfl) (fun hb w' hw => ?_) ?_; rotate_left 1; (simp only [Bool.and_eq_true, beq_iff_eq] at hb; obtain ⟨hbc, _⟩ := bcell hw; go_simp; rfl); simp only [Act.put, List.setIfInBounds_toArray, List.set_cons_zero, List.set_cons_succ]))
      refine' Seg2.call_if (v := _) (G := _) (f := _) (args := _) (by first | exact Seg.wanted1 rfl rfl | exact Seg.wanted2 rfl rfl) (fun hb w' => ?_) (fun hb w' hw => (fits_any ⟨q, A2, c2, A3, c3, A4, c4⟩ ce ⟨rdC T 0, B0, d0, B1, d1, B2, d2⟩ w' (hq.below (bthen hbw hw)) (hci.below hw) HG.out)) ?_
      · simp only [Bool.and_eq_true, beq_iff_eq] at hb
        go_simp
      simp only [Act.put, List.setIfInBounds_toArray, List.set_cons_zero, List.set_cons_succ]
      repeat (first
        | (refine' Seg2.pick_or (b := _) (x := _) (c := _) (y := _) rfl rfl rfl rfl ?_; simp only [Act.put, List.setIfInBounds_toArray, List.set_cons_zero, List.set_cons_succ])
        | (refine' Seg2.pick_and (b := _) (x := _) (c := _) (y := _) rfl rfl rfl rfl ?_; simp only [Act.put, List.setIfInBounds_toArray, List.set_cons_zero, List.set_cons_succ])
        | (refine' Seg2.val (v := _) rfl (fun w' hw => ?_) ?_; rotate_left 1; (obtain ⟨hbc, _⟩ := bcell hw; go_simp; rfl); simp only [Act.put, List.setIfInBounds_toArray, List.set_cons_zero, List.set_cons_succ])
        | (refine' Seg2.skip ?_ ?_; (focus (first | (rw [Seg.wanted1 rfl rfl]; simp; done) | (rw [Seg.wanted2 rfl rfl]; simp; done))); simp only [Act.put, List.setIfInBounds_toArray, List.set_cons_zero, List.set_cons_succ])
        | (refine' Seg2.pick_or_if (b := _) (x := _) (G := _) (c := _) (y := _) (by first | exact Seg.wanted1 rfl rfl | exact Seg.wanted2 rfl rfl) rfl rfl rfl ?_; simp only [Act.put, List.setIfInBounds_toArray, List.set_cons_zero, List.set_cons_succ])
        | (refine' Seg2.pick_and_if (b := _) (x := _) (G := _) (c := _) (y := _) (by first | exact Seg.wanted1 rfl rfl | exact Seg.wanted2 rfl rfl) rfl rfl rfl ?_; simp only [Act.put, List.setIfInBounds_toArray, List.set_cons_zero, List.set_cons_succ])
        | (refine' Seg2.val_if (v := _) (G := _) (by first | exact Seg.wanted1 rfl rfl | exact Seg.wanted2 rfl rfl) (fun hb w' hw => ?_) ?_; rotate_left 1; (simp only [Bool.and_eq_true, beq_iff_eq] at hb; obtain ⟨hbc, _⟩ := bcell hw; go_simp; rfl); simp only [Act.put, List.setIfInBounds_toArray, List.set_cons_zero, List.set_cons_succ]))
      refine Seg2.done (fun w3 hw3 => ?_)
      clear lx cx fx le xe fe lr xr fr ll xl fl hcl hf0 hf1 hf2 he0
      repeat ((conv in Seg.opt _ _ => skip); generalize Seg.opt _ _ = u)
      generalize hcd : (_ || !fits q ce _) = cd
      have HCd : Hid (cutOk q ce L k = !cd) := Lib.hid (by
        rw [cutOk, decide_eq_true hkl, ← HT0.out, HSz.out, ← hcd]
        have : (setsOf q s).getD k [] = x := by rw [List.getD_eq_getElem?_getD, HX.out]; rfl
        rw [show (((s : Nat) : Int)).toNat = s from rfl, this]
        simp)
      clear hcd
      obtain ⟨lr, xr, fr⟩ := hres.below hw3
      obtain ⟨ll, xl, fl⟩ := h1.below hw3
      have hcl := (h1.below hw3).get
      cases cd
      · have h1le : (1 : Int) ≤ T.length := by omega
        have HR := (hr.rest c' h1')
        have hl1 : T.length - 1 ≤ c' - 1 := by omega
        have hl2 : (T.drop 1).length = T.length - 1 := by simp
        rw [Option.map_some, Addr.add_lit, show Kd.cut.sz = 3 from rfl] at HR
        obtain ⟨A9, hA9⟩ : ∃ A9, (if c' = 1 then some (⟨b, o, none⟩ : Addr) else some ⟨b, o + 3, none⟩) = A9 := ⟨_, rfl⟩
        rw [hA9] at HR
        have hsl : ∀ w, (Instr.sliceAt 26 (.slice (some ⟨b, o, none⟩) T.length c') (some (.int .i64 1)) none none).run Try.prog w = .ok (.slice A9 (T.length - 1) (c' - 1)) w := by
          intro w
          rw [← hA9]
          go_simp
        have HL2 := Lib.hid hl2
        have HA9 := Lib.hid hA9
        clear hl2 hA9
        gi_wp2
        have hnew := (h1.below hw3).put (u := .slice A9 (T.length - 1) (c' - 1))
        refine ⟨(Kept.of_below hw3).setCell (.inl rfl) _, ⟨A9, c' - 1, ?_, ?_, ?_⟩, fun i hi => ?_, (hres.below hw3).putOther (by omega), bset (bthen hbw hw3) (by omega), (hX.below hw3).putOther (by omega), (hE.below hw3).putOther (by omega)⟩
        · rw [← List.drop_drop, HT.out, HL2.out]; exact hnew
        · rw [← List.drop_drop, HT.out, HL2.out]; exact hl1
        · rw [← List.drop_drop, HT.out]; exact HR
        · rcases Nat.lt_or_ge i k with h' | h'
          · exact hok.out i h'
          · obtain rfl : i = k := by omega
            exact HCd.out
      · gi_wp2
        exact ⟨(Kept.of_below hw3).setCell (.inr rfl) _, rfl, (hres.below hw3).put, ⟨k, hkn, HCd.out⟩, bset (bthen hbw hw3) (by omega)⟩
    · rw [List.drop_eq_nil_of_le hkl] at h1 h1' hr
      have hcl := h1.get
      obtain ⟨ll, xl, fl⟩ := id h1
      gi_wp2
      refine Seg2.regionC (Seg2.wide_round l) (by kernel_rfl) (by kernel_rfl) ?_
      repeat (first
        | (refine' Seg2.pick_or (b := _) (x := _) (c := _) (y := _) rfl rfl rfl rfl ?_; simp only [Act.put, List.setIfInBounds_toArray, List.set_cons_zero, List.set_cons_succ])
        | (refine' Seg2.pick_and (b := _) (x := _) (c := _) (y := _) rfl rfl rfl rfl ?_; simp only [Act.put, List.setIfInBounds_toArray, List.set_cons_zero, List.set_cons_succ])
        | (refine' Seg2.val (v := _) rfl (fun w' hw => ?_) ?_; rotate_left 1; (obtain ⟨hbc, _⟩ := bcell hw; go_simp; rfl); simp only [Act.put, List.setIfInBounds_toArray, List.set_cons_zero, List.set_cons_succ])
        | (refine' Seg2.skip ?_ ?_; (focus (first | (rw [Seg.wanted1 rfl rfl]; simp; done) | (rw [Seg.wanted2 rfl rfl]; simp; done))); simp only [Act.put, List.setIfInBounds_toArray, List.set_cons_zero, List.set_cons_succ])
        | (refine' Seg2.pick_or_if (b := _) (x := _) (G := _) (c := _) (y := _) (by first | exact Seg.wanted1 rfl rfl | exact Seg.wanted2 rfl rfl) rfl rfl rfl ?_; simp only [Act.put, List.setIfInBounds_toArray, List.set_cons_zero, List.set_cons_succ])
        | (refine' Seg2.pick_and_if (b := _) (x := _) (G := _) (c := _) (y := _) (by first | exact Seg.wanted1 rfl rfl | exact Seg.wanted2 rfl rfl) rfl rfl rfl ?_; simp only [Act.put, List.setIfInBounds_toArray, List.set_cons_zero, List.set_cons_succ])
        | (refine' Seg2.val_if (v := _) (G := _) (by first | exact Seg.wanted1 rfl rfl | exact Seg.wanted2 rfl rfl) (fun hb w' hw => ?_) ?_; rotate_left 1; (simp only [Bool.and_eq_true, beq_iff_eq] at hb; obtain ⟨hbc, _⟩ := bcell hw; go_simp; rfl); simp only [Act.put, List.setIfInBounds_toArray, List.set_cons_zero, List.set_cons_succ]))
      refine Seg2.done (fun w3 hw3 => ?_)
      clear lx cx fx le xe fe lr xr fr ll xl fl hcl
      obtain ⟨lr, xr, fr⟩ := hres.below hw3
      gi_wp2
      exact ⟨(Kept.of_below hw3).setCell (.inr rfl) _, rfl, (hres.below hw3).put, ⟨k, hkn, by rw [cutOk, decide_eq_false (by omega)]; rfl⟩, bset (bthen hbw hw3) (by omega)⟩
  · rintro D W hD ⟨⟨A', c', h1, h1', hr⟩, hok, hres, hbw, hX, hE⟩ hK
    have HS2 := Lib.hid hsz1
    have HS3 := Lib.hid hsz2
    clear hcl h00
    obtain ⟨lr, xr, fr⟩ := id hres
    obtain ⟨ll, xl, fl⟩ := id h1
    have hcl := h1.get
    generalize hlen : (L.drop (setsOf q s).length).length = n at h1 h1' hcl xl
    have HLen := Lib.hid hlen
    clear hlen hr
    go_wp2
    have hK2 : (W.setCell ⟨w.heap.size + 1 + 1 + 1, 0, none⟩ (.bool ((n : Int) == 0))).heap[D]? = some (.deferred (some [])) := (Below.heap_setCell _ _ _ _ (by simp only; omega)).trans hK
    have hR := (hres.put (u := .bool ((n : Int) == 0))).putObj (l := D) (o := .deferred none) (by omega)
    refine leave_marked hK2 (results_cell1 rfl rfl (load_bool hR)) ⟨?_, below_putObj (bset hbw (by omega)) (by omega) _⟩
    rw [← HRes.out, cutsB, HSz.out, show (((s : Nat) : Int)).toNat = s from rfl, decide_eq_true hok.out, Bool.true_and]
    refine ret_bool ?_
    have := HLen.out
    rw [List.length_drop] at this
    rw [Bool.eq_iff_iff]
    simp
    omega
  · rintro D c W hD ⟨rfl, h2, h3, h4⟩ hK
    gi_wp2
    have hR := h2.putObj (l := D) (o := .deferred none) (by omega)
    refine leave_marked hK (results_cell1 rfl rfl (load_bool hR)) ⟨?_, below_putObj h4 (by omega) _⟩
    obtain ⟨i, hi, hc⟩ := h3.out
    rw [← HRes.out, cutsB, HSz.out, show (((s : Nat) : Int)).toNat = s from rfl, decide_eq_false (fun h => by have := h i hi; rw [hc] at this; cases this)]
    rfl
end Go.Proofs.Ytfmekjpmjefpmaa

/- The iterator over sets, walked. -/
import Derived.Test.YtfmekjpmjefpmaaWl
import Derived.Test.YtfmekjpmjefpmaaOwn2
set_option linter.unusedSimpArgs false
set_option linter.unusedVariables false
namespace Go.Proofs.Ytfmekjpmjefpmaa
open Go.RowKit

/-- The sets of m more of a list's elements, behind S, in lexicographic order. -/
def pick : Nat → List Int → List Int → List (List Int)
  | 0, _, S => [S]
  | _ + 1, [], _ => []
  | m + 1, x :: L, S => pick m L (S ++ [x]) ++ pick (m + 1) L S
theorem pick_few : ∀ (L : List Int) (m : Nat) (S : List Int), L.length < m → pick m L S = []
  | [], m + 1, S, _ => by simp [pick]
  | x :: L, m + 1, S, h => by
    simp only [List.length_cons] at h
    rw [pick, pick_few L m _ (by omega), pick_few L (m + 1) _ (by omega)]
    rfl
theorem pick_step {m : Nat} {L S : List Int} {i : Nat} (hi : i < L.length) : pick (m + 1) (L.drop i) S = pick m (L.drop (i + 1)) (S ++ [rd L i]) ++ pick (m + 1) (L.drop (i + 1)) S := by
  have h : L.drop i = rd L i :: L.drop (i + 1) := by
    rw [List.drop_eq_getElem_cons hi]
    congr 1
    simp [rd, List.getD_eq_getElem?_getD, hi]
  rw [h, pick]

def CloneN (l : List Int) (w : World) (e : Ending) (w' : World) : Prop := ∃ B d, e = .returned (.slice B l.length d) ∧ l.length ≤ d ∧ RowN w.heap.size w' B l ∧ Below w.heap.size w w'
set_option maxHeartbeats 800000 in
theorem cloneN_any (A : Option Addr) (c : Nat) (l : List Int) (w : World) (hl : Row (Kd.int .i64) w A l) (hA : l = [] → A = none ∧ c = 0) (hlen : l.length ≤ 1000000) :
    Calls Try.prog 50 #[.slice A l.length c] w (CloneN l w) := by
  by_cases hne : l = []
  · obtain ⟨rfl, rfl⟩ := hA hne
    subst hne
    have hcmp : ∀ w, (binOp .eql 22 (.slice none 0 0) (.slice none 0 0)).run Try.prog w = .ok (.bool true) w := fun w => by kernel_rfl
    go_enter Try.func50, Try.ntmps50
    go_wp2
    go_ret
    exact ⟨none, 0, rfl, Nat.le_refl _, ⟨⟨by simp, fun h => absurd rfl h⟩, fun a h => by cases h⟩, Below.refl _ _⟩
  · exact (clone_any A c l w hl hne hlen).mono fun e w' ⟨B, d, he, ho, hb⟩ => ⟨B, d, he, ho.len.1, ho.rowN (Nat.le_refl _), hb⟩

/-- What a walk of the iterator leaves. -/
def WalkPost (J : Nat → World → Prop) (Jx : World → Prop) (M : Nat → Prop) (k m : Nat) (W1 : World) (e : Ending) (W' : World) : Prop :=
  (e = .returned (.bool true) ∧ J (k + m) W' ∧ Kept M W1 W') ∨ (e = .returned (.bool false) ∧ Jx W' ∧ W1.heap.size ≤ W'.heap.size)

/-- What stands fast while an iterator over sets runs. -/
structure SetsCtx (l mb yb wc N many : Nat) (M : Nat → Prop) (J : Nat → World → Prop) (Jx : World → Prop) (xs : List (List Int)) : Prop where
  hM : ∀ b, M b → b < N
  hyb : N ≤ yb
  hwc : N ≤ wc
  hmb : ¬ M mb
  hmany : many ≤ 1000
  hJ : ∀ k W1 W2, J k W1 → N ≤ W1.heap.size → Below N W1 W2 → J k W2
  hJx : ∀ W1 W2, Jx W1 → N ≤ W1.heap.size → Below N W1 W2 → Jx W2
  hY : ∀ k x W1 A c, xs[k]? = some x → J k W1 → x.length ≤ c → RowN N W1 A x → N ≤ W1.heap.size →
      YieldAt Fence.wide 0 Try.prog l #[.slice A x.length c] W1 fun e W' => (e = .returned (.bool true) ∧ J (k + 1) W' ∧ Kept M W1 W') ∨ (e = .returned (.bool false) ∧ Jx W' ∧ W1.heap.size ≤ W'.heap.size)
/-- The three boxes that it reads. -/
structure SetsBox (W : World) (l mb yb wc many : Nat) : Prop where
  m : Box W mb #[.int .i64 many]
  y : Box W yb #[.func (.yield l) #[] #[]]
  w : Box W wc #[.func (.func 103) #[] #[.pointer (some ⟨mb, 0, none⟩), .pointer (some ⟨yb, 0, none⟩), .pointer (some ⟨wc, 0, none⟩)]]
theorem SetsBox.below {W W1 : World} {l mb yb wc many : Nat} (h : SetsBox W l mb yb wc many) (hb : Below W.heap.size W W1) : SetsBox W1 l mb yb wc many := ⟨h.m.below hb, h.y.below hb, h.w.below hb⟩
theorem SetsBox.kept {W W1 : World} {l mb yb wc N many : Nat} {M : Nat → Prop} {J : Nat → World → Prop} {Jx : World → Prop} {xs : List (List Int)} (C : SetsCtx l mb yb wc N many M J Jx xs) (h : SetsBox W l mb yb wc many) (hb : Kept M W W1) : SetsBox W1 l mb yb wc many :=
  ⟨h.m.kept hb C.hmb, h.y.kept hb (fun hm => by have := C.hM _ hm; have := C.hyb; omega), h.w.kept hb (fun hm => by have := C.hM _ hm; have := C.hwc; omega)⟩

theorem pick_at {m : Nat} {L S : List Int} {i : Nat} {D : List (List Int)} {xs : List (List Int)} {k : Nat} (hi : i < L.length) (hD : pick (m + 1) L S = D ++ pick (m + 1) (L.drop i) S) (hX : ∀ (j : Nat) (x : List Int), (pick (m + 1) L S)[j]? = some x → xs[k + j]? = some x) :
    (∀ (j : Nat) (x : List Int), (pick m (L.drop (i + 1)) (S ++ [rd L i]))[j]? = some x → xs[k + D.length + j]? = some x) ∧
    pick (m + 1) L S = (D ++ pick m (L.drop (i + 1)) (S ++ [rd L i])) ++ pick (m + 1) (L.drop (i + 1)) S := by
  rw [pick_step hi] at hD
  refine ⟨fun j x hj => ?_, by rw [hD, List.append_assoc]⟩
  have := hX (D.length + j) x (by
    rw [hD, List.getElem?_append_right (by omega), show D.length + j - D.length = j by omega, List.getElem?_append_left (List.getElem?_eq_some_iff.1 hj).1]
    exact hj)
  rw [Nat.add_assoc]
  exact this
theorem pick_skip {m : Nat} {L S : List Int} {i : Nat} (h : L.length < m + 1 + i) : pick (m + 1) (L.drop i) S = pick (m + 1) (L.drop (i + 1)) S := by
  rw [pick_few _ _ _ (by rw [List.length_drop]; omega), pick_few _ _ _ (by rw [List.length_drop]; omega)]

set_option maxHeartbeats 4000000 in
set_option maxRecDepth 100000 in
theorem walk_any {l mb yb wc N many : Nat} {M : Nat → Prop} {J : Nat → World → Prop} {Jx : World → Prop} {xs : List (List Int)} (C : SetsCtx l mb yb wc N many M J Jx xs) :
    ∀ (n : Nat) (L S : List Int) (A B : Option Addr) (c d k : Nat) (W : World), L.length < n → L.length ≤ c → L.length ≤ 1000 → S.length ≤ d → S.length ≤ many → RowN N W A L → RowN N W B S → (S = [] → B = none ∧ d = 0) → SetsBox W l mb yb wc many →
      N ≤ W.heap.size → J k W → (∀ j x, (pick (many - S.length) L S)[j]? = some x → xs[k + j]? = some x) →
      Calls Try.prog 103 #[.slice A L.length c, .slice B S.length d, .pointer (some ⟨mb, 0, none⟩), .pointer (some ⟨yb, 0, none⟩), .pointer (some ⟨wc, 0, none⟩)] W (WalkPost J Jx M k (pick (many - S.length) L S).length W) := by
  intro n
  induction n with
  | zero =>
    intro L S A B c d k W hn hLc hL hSd hSm hrL hrS hnil hbx hN hJ hxs
    omega
  | succ n ih =>
    intro L S A B c d k W hn hLc hL hSd hSm hrL hrS hnil hbx hN hJ hxs
    have IH := Lib.hid ih
    have HC := Lib.hid C
    have HL := Lib.hid hrL
    have HS := Lib.hid hrS
    have HJ := Lib.hid hJ
    have HX := Lib.hid hxs
    have HNil := Lib.hid hnil
    have hmy := C.hmany
    clear ih C hrL hrS hJ hxs hnil
    obtain ⟨lm, cm, fm⟩ := id hbx.m
    obtain ⟨ly, cy, fy⟩ := id hbx.y
    obtain ⟨lw, cw, fw⟩ := id hbx.w
    by_cases hend : S.length = many
    · have hd : ((S.length : Int) == many) = true := by simp; omega
      have HE := Lib.hid hend
      clear hend
      go_enter Try.func103, Try.ntmps103
      go_wp2
      refine Seg2.region 2 3 (by kernel_rfl) (by kernel_rfl) (by kernel_rfl) (by kernel_rfl) ?_
      repeat (first
        | (refine' Seg2.pick_or (b := _) (x := _) (c := _) (y := _) rfl rfl rfl rfl ?_; simp only [Act.put, List.setIfInBounds_toArray, List.set_cons_zero, List.set_cons_succ])
        | (refine' Seg2.pick_and (b := _) (x := _) (c := _) (y := _) rfl rfl rfl rfl ?_; simp only [Act.put, List.setIfInBounds_toArray, List.set_cons_zero, List.set_cons_succ])
        | (refine' Seg2.val (v := _) rfl (fun w' hw => ?_) ?_; rotate_left 1; (obtain ⟨hbc, _⟩ := bcell hw; go_simp; rfl); simp only [Act.put, List.setIfInBounds_toArray, List.set_cons_zero, List.set_cons_succ])
        | (refine' Seg2.skip ?_ ?_; (focus (first | (rw [Seg.wanted1 rfl rfl]; simp; done) | (rw [Seg.wanted2 rfl rfl]; simp; done))); simp only [Act.put, List.setIfInBounds_toArray, List.set_cons_zero, List.set_cons_succ])
        | (refine' Seg2.pick_or_if (b := _) (x := _) (G := _) (c := _) (y := _) (by first | exact Seg.wanted1 rfl rfl | exact Seg.wanted2 rfl rfl) rfl rfl rfl ?_; simp only [Act.put, List.setIfInBounds_toArray, List.set_cons_zero, List.set_cons_succ])
        | (refine' Seg2.pick_and_if (b := _) (x := _) (G := _) (c := _) (y := _) (by first | exact Seg.wanted1 rfl rfl | exact Seg.wanted2 rfl rfl) rfl rfl rfl ?_; simp only [Act.put, List.setIfInBounds_toArray, List.set_cons_zero, List.set_cons_succ])
        | (refine' Seg2.val_if (v := _) (G := _) (by first | exact Seg.wanted1 rfl rfl | exact Seg.wanted2 rfl rfl) (fun hb w' hw => ?_) ?_; rotate_left 1; (simp only [Bool.and_eq_true, beq_iff_eq] at hb; obtain ⟨hbc, _⟩ := bcell hw; go_simp; rfl); simp only [Act.put, List.setIfInBounds_toArray, List.set_cons_zero, List.set_cons_succ]))
      refine Seg2.done ?_
      refine Seg2.spec_cons (by simp [Region.wanted]) (fun w1 hb1 => ?_)
      refine Seg2.some_call (f := 50) (args := #[.slice B S.length d]) (w := w1) (by go_simp) ?_
      refine (cloneN_any B d S w1 (HS.out.1.below hb1) HNil.out (by omega)).mono ?_
      rintro e w2 ⟨B2, d2, rfl, hd2, hr2, hb2⟩
      refine ⟨_, rfl, bthen hb1 hb2, ?_⟩
      refine Seg2.spec_nil (fun w3 hb3 => ?_)
      simp only [Act.put, List.setIfInBounds_toArray, List.set_cons_zero, List.set_cons_succ]
      simp only [List.drop]
      have hS0 : S.length = S.length := rfl
      have hN2 : N ≤ w2.heap.size := by have := hb1.size; have := hb2.size; omega
      have hJ3 : J k w3 := HC.out.hJ k W w3 HJ.out hN (((hb1.mono hN).trans (hb2.mono (by have := hb1.size; omega))).trans (hb3.mono hN2))
      have hY := HC.out.hY k S w3 B2 d2 (by have := HX.out 0 S (by rw [HE.out, Nat.sub_self, pick]; rfl); simpa using this) hJ3 hd2 ((hr2.mono (by have := hb1.size; omega)).below hb3) (by have := hb3.size; omega)
      refine Seg2.tail_yield (fun c h => by cases h) rfl hY (fun fn tmps assign body h => by go_simp) ?_
      rintro e w4 (⟨rfl, hJ4, hk4⟩ | ⟨rfl, hJ4, hs4⟩)
      · refine ⟨_, rfl, ?_⟩
        simp only [Act.put, List.setIfInBounds_toArray, List.set_cons_zero, List.set_cons_succ]
        gi_wp2
        go_wp2
        go_ret
        refine .inl ⟨rfl, ?_, ?_⟩
        · rw [HE.out, Nat.sub_self, pick]; exact hJ4
        · exact (Kept.of_below (bthen (bthen hb1 hb2) hb3)).trans hk4
      · refine ⟨_, rfl, ?_⟩
        simp only [Act.put, List.setIfInBounds_toArray, List.set_cons_zero, List.set_cons_succ]
        gi_wp2
        go_wp2
        go_ret
        exact .inr ⟨rfl, hJ4, by have := hb1.size; have := hb2.size; have := hb3.size; omega⟩
    · have hd : ((S.length : Int) == many) = false := by simp; omega
      have hlt : S.length < many := by omega
      clear hend
      have hfewer : (many : Int) - S.length ≤ 1000 := by omega
      go_enter Try.func103, Try.ntmps103
      go_wp2
      clear lm cm fm ly cy fy lw cw fw
      go_loopw [20] (fun v20 wr => ∃ i : Nat, i ≤ L.length ∧ v20 = .int .i64 i ∧ SetsBox wr l mb yb wc many ∧ RowN N wr A L ∧ RowN N wr B S ∧ N ≤ wr.heap.size ∧ Kept M W wr ∧
        Hid (∃ D, pick (many - S.length) L S = D ++ pick (many - S.length) (L.drop i) S ∧ J (k + D.length) wr)) (fun i _ => L.length - (intOf i).toNat)
      case atStart => exact ⟨0, by omega, rfl, hbx, HL.out, HS.out, hN, Kept.refl _ _, [], rfl, HJ.out⟩
      case round =>
        obtain ⟨i, hi, rfl, hbx1, hrL1, hrS1, hN1, hk1, HD⟩ := hrel
        have HL1 := Lib.hid hrL1
        have HS1 := Lib.hid hrS1
        clear hrS1
        by_cases hlti : i < L.length
        · obtain ⟨lm, cm, fm⟩ := id hbx1.m
          obtain ⟨ly, cy, fy⟩ := id hbx1.y
          obtain ⟨lw, cw, fw⟩ := id hbx1.w
          obtain ⟨b0, o0, rfl, hb0, hc0, hw0⟩ := hrL1.1.int_at hlti
          clear hrL1
          go_upto_region 6 with (fail)
          have hw1 : IntKind.i64.wrap ((many : Int) - S.length) = (many : Int) - S.length := IntWalk.i64_in _ (by omega)
          have hw2 : IntKind.i64.wrap ((L.length : Int) - i) = (L.length : Int) - i := IntWalk.i64_in _ (by omega)
          have hw3 : IntKind.i64.wrap ((i : Int) + 1) = (i : Int) + 1 := IntWalk.i64_in _ (by omega)
          have hw4 : (0 : Int) ≤ (i : Int) + 1 := by omega
          have hw5 : (i : Int) + 1 ≤ L.length := by omega
          have hw6 : ((i : Int) + 1).toNat = i + 1 := by omega
          by_cases hen : (many : Int) - S.length ≤ (L.length : Int) - i
          · have hen' : decide ((many : Int) - S.length ≤ (L.length : Int) - i) = true := by simpa using hen
            refine Seg2.region 22 24 (by kernel_rfl) (by kernel_rfl) (by kernel_rfl) (by kernel_rfl) ?_
            repeat (first
              | (refine' Seg2.pick_or (b := _) (x := _) (c := _) (y := _) rfl rfl rfl rfl ?_; simp only [Act.put, List.setIfInBounds_toArray, List.set_cons_zero, List.set_cons_succ])
              | (refine' Seg2.pick_and (b := _) (x := _) (c := _) (y := _) rfl rfl rfl rfl ?_; simp only [Act.put, List.setIfInBounds_toArray, List.set_cons_zero, List.set_cons_succ])
              | (refine' Seg2.val (v := _) rfl (fun w' hw => ?_) ?_; rotate_left 1; (obtain ⟨hbc, _⟩ := bcell hw; go_simp; rfl); simp only [Act.put, List.setIfInBounds_toArray, List.set_cons_zero, List.set_cons_succ])
              | (refine' Seg2.skip ?_ ?_; (focus (first | (rw [Seg.wanted1 rfl rfl]; simp; done) | (rw [Seg.wanted2 rfl rfl]; simp; done))); simp only [Act.put, List.setIfInBounds_toArray, List.set_cons_zero, List.set_cons_succ])
              | (refine' Seg2.pick_or_if (b := _) (x := _) (G := _) (c := _) (y := _) (by first | exact Seg.wanted1 rfl rfl | exact Seg.wanted2 rfl rfl) rfl rfl rfl ?_; simp only [Act.put, List.setIfInBounds_toArray, List.set_cons_zero, List.set_cons_succ])
              | (refine' Seg2.pick_and_if (b := _) (x := _) (G := _) (c := _) (y := _) (by first | exact Seg.wanted1 rfl rfl | exact Seg.wanted2 rfl rfl) rfl rfl rfl ?_; simp only [Act.put, List.setIfInBounds_toArray, List.set_cons_zero, List.set_cons_succ])
              | (refine' Seg2.val_if (v := _) (G := _) (by first | exact Seg.wanted1 rfl rfl | exact Seg.wanted2 rfl rfl) (fun hb w' hw => ?_) ?_; rotate_left 1; (simp only [Bool.and_eq_true, beq_iff_eq] at hb; obtain ⟨hbc, _⟩ := bcell hw; go_simp; rfl); simp only [Act.put, List.setIfInBounds_toArray, List.set_cons_zero, List.set_cons_succ]))
            refine Seg2.done ?_
            clear hw1 hw2 hw3 hw4 hw5 hw6 hen' hc0
            clear lm cm fm ly cy fy lw cw fw
            simp only [beq_self_eq_true, Seg.opt_true, List.drop, List.take]
            refine Seg2.spec_cons (by simp [Region.wanted, yielded]) (fun w1 hb1 => ?_)
            refine Seg2.some_value (v := .slice (some ⟨w1.heap.size, 0, none⟩) 1 1) (w := w1.alloc (.cells #[.int .i64 (rd L i)] 3)) (by go_simp) ⟨bthen hb1 (balloc0 _ _), ?_⟩
            simp only [Act.put, List.setIfInBounds_toArray, List.set_cons_zero, List.set_cons_succ]
            refine Seg2.spec_cons (by simp [Region.wanted, yielded]) (fun w3 hb3 => ?_)
            have hb13 := bthen (bthen hb1 (balloc0 w1 (.cells #[.int .i64 (rd L i)] 3))) hb3
            have hcx : w3.cell? ⟨w1.heap.size, 0, none⟩ = some (.int .i64 (rd L i)) := bcellE hb3 (by simp [go_sem])
            refine some_append_fresh (k := .i64) _ _ 22 3 rfl Try.underlying22 infoI B S S.length rfl rfl (HS1.out.1.below hb13) (fun h => (HNil.out h).1) ⟨w1.heap.size, 0, none⟩ (rd L i) rfl hcx hw0 (by omega) ?_
            intro g cap w4 hO4 hb4
            refine ⟨bthen hb13 hb4, ?_⟩
            simp only [Act.put, List.setIfInBounds_toArray, List.set_cons_zero, List.set_cons_succ]
            refine Seg2.spec_nil (fun w5 hb5 => ?_)
            have hb15 := bthen (bthen hb13 hb4) hb5
            obtain ⟨D, hD, hJD⟩ := HD.out
            obtain ⟨m, hm⟩ : ∃ m, many - S.length = m + 1 := ⟨many - S.length - 1, by omega⟩
            have hX := HX.out
            rw [hm] at hD hX
            obtain ⟨hP1, hP2⟩ := pick_at hlti hD hX
            have hN5 : N ≤ w5.heap.size := Nat.le_trans hN1 hb15.size
            have hm' : many - (S.length + 1) = m := by omega
            have hR := (HL1.out.below hb15).drop (i + 1) c hLc
            rw [Option.map_some, Addr.add_lit] at hR
            have HI := IH.out (L.drop (i + 1)) (S ++ [rd L i]) _ (some ⟨g, 0, none⟩) (c - (i + 1)) cap (k + D.length) w5 (by rw [List.length_drop]; omega) (by rw [List.length_drop]; omega) (by rw [List.length_drop]; omega) hO4.len.1 (by simp; omega) hR
              ((hO4.rowN (Nat.le_trans hN1 (bthen hb1 (bthen (balloc0 w1 _) hb3)).size)).below hb5) (fun h => by simp at h) (hbx1.below hb15) hN5 (HC.out.hJ _ _ _ hJD hN1 (hb15.mono hN1)) (by rw [List.length_append, List.length_singleton, hm']; exact hP1)
            rw [List.length_drop, List.length_append, List.length_singleton, hm'] at HI
            have HP2 := Lib.hid hP2
            have HMM := Lib.hid hm
            have hpos : 0 < S.length + 1 := by omega
            clear hD hJD hX hP1 hP2 hR hm' hm hcx
            refine Seg2.tail_some Seg2.wide_wide (fun c h => by cases h) (by simp [Region.wanted, yielded]) (Seg2.some_call (w := w5) (by go_simp) (HI.mono ?_))
            clear HI
            generalize (if c = i + 1 then some (⟨b0, o0, none⟩ : Addr) else some ⟨b0, o0 + (i + 1), none⟩) = A9
            rintro e w6 (⟨rfl, hJ6, hk6⟩ | ⟨rfl, hJ6, hs6⟩)
            · refine ⟨_, rfl, ?_⟩
              simp only [Act.put, List.setIfInBounds_toArray, List.set_cons_zero, List.set_cons_succ]
              gi_wp2
              go_wp2
              have hk16 := (Kept.of_below (M := M) hb15).trans hk6
              go_roundw
              case rel =>
                refine ⟨i + 1, by omega, by go_num, hbx1.kept HC.out hk16, HL1.out.kept hk16 HC.out.hM, HS1.out.kept hk16 HC.out.hM, Nat.le_trans hN5 hk6.size, hk1.trans hk16, ?_⟩
                rw [HMM.out]
                exact ⟨_, HP2.out, by rw [List.length_append, ← Nat.add_assoc]; exact hJ6⟩
              case measure => simp [intOf]; omega
            · refine ⟨_, rfl, ?_⟩
              simp only [Act.put, List.setIfInBounds_toArray, List.set_cons_zero, List.set_cons_succ]
              gi_wp2
              go_wp2
              go_ret
              exact .inr ⟨rfl, hJ6, by have := hk1.size; have := hb15.size; omega⟩
          · have hen' : decide ((many : Int) - S.length ≤ (L.length : Int) - i) = false := by simpa using hen
            refine Seg2.region 27 27 (by kernel_rfl) (by kernel_rfl) (by kernel_rfl) (by kernel_rfl) ?_
            repeat (first
              | (refine' Seg2.pick_or (b := _) (x := _) (c := _) (y := _) rfl rfl rfl rfl ?_; simp only [Act.put, List.setIfInBounds_toArray, List.set_cons_zero, List.set_cons_succ])
              | (refine' Seg2.pick_and (b := _) (x := _) (c := _) (y := _) rfl rfl rfl rfl ?_; simp only [Act.put, List.setIfInBounds_toArray, List.set_cons_zero, List.set_cons_succ])
              | (refine' Seg2.val (v := _) rfl (fun w' hw => ?_) ?_; rotate_left 1; (obtain ⟨hbc, _⟩ := bcell hw; go_simp; rfl); simp only [Act.put, List.setIfInBounds_toArray, List.set_cons_zero, List.set_cons_succ])
              | (refine' Seg2.skip ?_ ?_; (focus (first | (rw [Seg.wanted1 rfl rfl]; simp; done) | (rw [Seg.wanted2 rfl rfl]; simp; done))); simp only [Act.put, List.setIfInBounds_toArray, List.set_cons_zero, List.set_cons_succ])
              | (refine' Seg2.pick_or_if (b := _) (x := _) (G := _) (c := _) (y := _) (by first | exact Seg.wanted1 rfl rfl | exact Seg.wanted2 rfl rfl) rfl rfl rfl ?_; simp only [Act.put, List.setIfInBounds_toArray, List.set_cons_zero, List.set_cons_succ])
              | (refine' Seg2.pick_and_if (b := _) (x := _) (G := _) (c := _) (y := _) (by first | exact Seg.wanted1 rfl rfl | exact Seg.wanted2 rfl rfl) rfl rfl rfl ?_; simp only [Act.put, List.setIfInBounds_toArray, List.set_cons_zero, List.set_cons_succ])
              | (refine' Seg2.val_if (v := _) (G := _) (by first | exact Seg.wanted1 rfl rfl | exact Seg.wanted2 rfl rfl) (fun hb w' hw => ?_) ?_; rotate_left 1; (simp only [Bool.and_eq_true, beq_iff_eq] at hb; obtain ⟨hbc, _⟩ := bcell hw; go_simp; rfl); simp only [Act.put, List.setIfInBounds_toArray, List.set_cons_zero, List.set_cons_succ]))
            refine Seg2.done (Seg2.spec_nil (fun w1 hb1 => ?_))
            clear hw1 hw2 hw3 hw4 hw5 hw6 hen' hc0
            clear lm cm fm ly cy fy lw cw fw
            simp only [List.drop]
            gi_wp2
            go_wp2
            go_roundw
            case rel =>
              refine ⟨i + 1, by omega, by go_num, hbx1.below hb1, HL1.out.below hb1, HS1.out.below hb1, Nat.le_trans hN1 hb1.size, hk1.trans (Kept.of_below hb1), ?_⟩
              obtain ⟨D, hD, hJD⟩ := HD.out
              refine ⟨D, ?_, HC.out.hJ _ _ _ hJD hN1 (hb1.mono hN1)⟩
              rw [hD]
              obtain ⟨m, hm⟩ : ∃ m, many - S.length = m + 1 := ⟨many - S.length - 1, by omega⟩
              rw [hm, pick_skip (by omega)]
            case measure => simp [intOf]; omega
        · clear hrL1
          obtain rfl : i = L.length := by omega
          go_wp2
          go_ret
          obtain ⟨D, hD, hJD⟩ := HD.out
          rw [List.drop_length] at hD
          rw [show many - S.length = (many - S.length - 1) + 1 by omega] at hD ⊢
          rw [pick, List.append_nil] at hD
          exact .inl ⟨rfl, by rw [hD]; exact hJD, hk1⟩
end Go.Proofs.Ytfmekjpmjefpmaa

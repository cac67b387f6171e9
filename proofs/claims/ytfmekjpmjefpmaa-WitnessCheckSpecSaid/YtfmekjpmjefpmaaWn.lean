/- The iterator over sets: its outer function, its contract; sets. -/
import Derived.Test.YtfmekjpmjefpmaaWm
set_option linter.unusedSimpArgs false
set_option linter.unusedVariables false
namespace Go.Proofs.Ytfmekjpmjefpmaa
open Go.RowKit

def rivalsTo (club : Int) : Nat → List Int
  | 0 => []
  | k + 1 => rivalsTo club k ++ if (k : Int) ≠ club then [(k : Int)] else []
theorem rivalsTo_len (club : Int) : ∀ k, (rivalsTo club k).length ≤ k
  | 0 => Nat.le_refl _
  | k + 1 => by
    have := rivalsTo_len club k
    simp only [rivalsTo, List.length_append]
    split <;> simp <;> omega
def rivals (q : Race) : List Int := rivalsTo q.club q.clubs.length
def setsOf (q : Race) (many : Nat) : List (List Int) := pick many (rivals q) []

def raceCells (m : RaceM) : Array Value := #[.int .i64 m.q.win, .int .i64 m.q.draw, .slice m.A2 m.q.clubs.length m.c2, .slice m.A3 m.q.points.length m.c3, .slice m.A4 m.q.games.length m.c4, .int .i64 m.q.club, .int .i64 m.q.place]

set_option maxHeartbeats 4000000 in
set_option maxRecDepth 100000 in
theorem sets_seq (q : Race) (A2 A3 A4 : Option Addr) (c2 c3 c4 : Nat) (many rb mb : Nat) (hn : q.clubs.length ≤ 24) (hmany : many ≤ 1000) :
    Seq Try.prog 102 #[.pointer (some ⟨rb, 0, none⟩), .pointer (some ⟨mb, 0, none⟩)] (setsOf q many) (fun b => b = rb ∨ b = mb)
      (fun W => Box W rb #[.int .i64 q.win, .int .i64 q.draw, .slice A2 q.clubs.length c2, .slice A3 q.points.length c3, .slice A4 q.games.length c4, .int .i64 q.club, .int .i64 q.place] ∧ Box W mb #[.int .i64 many]) := by
  rintro l M J Jx W ⟨X0, Y0⟩ hcap hM hJ hJx hY h0
  have hcr := (hcap rb (.inl rfl)).1
  have hcm := (hcap mb (.inr rfl)).1
  have hMm := (hcap mb (.inr rfl)).2
  have HJ := Lib.hid hJ
  have HJx := Lib.hid hJx
  have HY := Lib.hid hY
  have H0 := Lib.hid h0
  have HM := Lib.hid hM
  clear hcap hM hJ hJx hY h0
  show Calls Try.prog 102 #[.func (.yield l) #[] #[], .pointer (some ⟨rb, 0, none⟩), .pointer (some ⟨mb, 0, none⟩)] W _
  go_enter Try.func102, Try.ntmps102
  go_upto_region 1 with (fail)
  obtain ⟨W0, hW0, hB0, Z0⟩ := box1 W #[.func (.yield l) #[] #[]] 75
  rw [hW0]
  clear hW0
  obtain ⟨lx, cx, fx⟩ := X0.below hB0
  go_wp2
  clear lx cx fx
  have hs0 : W0.heap.size = W0.heap.size := rfl
  go_loopw [4, 11] (fun v4 v11 wr => ∃ (n : Nat) (A : Option Addr) (c : Nat), n ≤ q.clubs.length ∧ v11 = .int .i64 n ∧ v4 = .slice A (rivalsTo q.club n).length c ∧ OwnI .i64 3 wr W0.heap.size A c (rivalsTo q.club n) ∧ Below W0.heap.size W0 wr) (fun _ i _ => q.clubs.length - (intOf i).toNat)
  case atStart => exact ⟨0, none, 0, by omega, rfl, rfl, OwnI.nil _ _ _ _, Below.refl _ _⟩
  case round =>
    obtain ⟨n, A, c, hn1, rfl, rfl, hO, HB⟩ := hrel
    by_cases hlt : n < q.clubs.length
    · obtain ⟨lx, cx, fx⟩ := (X0.below hB0).below HB
      have hle := rivalsTo_len q.club n
      by_cases hc : (n : Int) = q.club
      · have hc' : ((n : Int) != q.club) = false := by simpa using hc
        have HC := Lib.hid hc
        clear hc
        go_wp2
        go_roundw
        case rel => exact ⟨n + 1, A, c, by omega, by go_num, by simp [rivalsTo, HC.out], by simpa [rivalsTo, HC.out] using hO, HB⟩
        case measure => simp [intOf]; omega
      · have hc' : ((n : Int) != q.club) = true := by simpa using hc
        have HC := Lib.hid hc
        clear hc
        go_wp2_with (at_builtin; refine append1 rfl _ _ 22 rfl Try.underlying22 infoI rfl (hO.alloc _) ⟨wr.heap.size, 0, none⟩ n rfl (by simp [go_sem]) (WalkArith.wf_i64 (by omega)) (by omega) (by have := HB.size; simp; omega) ?_; intro g c' w4 hO4 hg4 hn4 hl4)
        go_roundw
        case rel => exact ⟨n + 1, some ⟨g, 0, none⟩, c', by omega, by go_num, by simp [rivalsTo, HC.out], by simpa [rivalsTo, HC.out] using hO4, below_append (balloc HB _) (hO.alloc _) hg4 (by have := HB.size; simp; omega)⟩
        case measure => simp [intOf]; omega
    · obtain rfl : n = q.clubs.length := by omega
      have hle := rivalsTo_len q.club q.clubs.length
      have hst : ∀ f r c, (store ⟨wr.heap.size, 0, none⟩ (Value.func f r c)).run Try.prog (wr.alloc (.cells #[.nilFunc] 78)) = .ok () (wr.alloc (.cells #[.func f r c] 78)) := by
        intro f r c
        rw [run_store _ _ _ _ _ rfl]
        simp [go_sem]
      go_upto_region 10 with (fail)
      obtain ⟨W1, hW1, hB1, V1⟩ := box1 wr #[.func (.func 103) #[] #[.pointer (some ⟨mb, 0, none⟩), .pointer (some ⟨W.heap.size, 0, none⟩), .pointer (some ⟨wr.heap.size, 0, none⟩)]] 78
      rw [hW1]
      clear hW1 hst
      have hWr : W.heap.size ≤ wr.heap.size := Nat.le_trans hB0.size HB.size
      have hB01 := bthen (bthen hB0 HB) hB1
      have HCtx : SetsCtx l mb W.heap.size wr.heap.size W.heap.size many M J Jx (setsOf q many) := ⟨HM.out, Nat.le_refl _, hWr, hMm, hmany, HJ.out, HJx.out, HY.out⟩
      have HI := walk_any HCtx ((rivals q).length + 1) (rivals q) [] A none c 0 0 W1 (Nat.lt_succ_self _) (hO.len.1) (by unfold rivals; omega) (Nat.le_refl _) (Nat.zero_le _) ((hO.rowN (Nat.le_trans hB0.size (Nat.le_refl _))).below hB1) ⟨⟨by simp, fun h => absurd rfl h⟩, fun a h => by cases h⟩ (fun _ => ⟨rfl, rfl⟩)
        ⟨Y0.below hB01, (Z0.below HB).below hB1, V1⟩ (Nat.le_trans hWr hB1.size) (HJ.out 0 W W1 H0.out (Nat.le_refl _) hB01) (fun j x hx => by simpa [setsOf] using hx)
      have hcw := V1.cell 0
      simp only [List.getElem?_toArray, List.getElem?_cons_zero] at hcw
      obtain ⟨lw, cw, fw⟩ := id V1
      clear hcw
      have HII : Calls Try.prog 103 #[.slice A (rivalsTo q.club q.clubs.length).length c, .slice none 0 0, .pointer (some ⟨mb, 0, none⟩), .pointer (some ⟨W.heap.size, 0, none⟩), .pointer (some ⟨wr.heap.size, 0, none⟩)] W1 (WalkPost J Jx M 0 (setsOf q many).length W1) := HI
      clear HI
      replace HII := Lib.hid HII
      go_wp2_with (go_at_call 103; refine HII.out.mono ?_; rintro e w6 (⟨rfl, hJ6, hk6⟩ | ⟨rfl, hJ6, hs6⟩))
      · go_end0
        exact ⟨⟨_, rfl⟩, .inl (by simpa using hJ6)⟩
      · go_end0
        exact ⟨⟨_, rfl⟩, .inr hJ6⟩

theorem sets_any (m : RaceM) (many : Nat) (w : World) : Calls Try.prog 88 #[m.v, .int .i64 many] w fun e w' => e = .returned (.func (.func 102) #[] #[.pointer (some ⟨w.heap.size, 0, none⟩), .pointer (some ⟨w.heap.size + 1, 0, none⟩)]) ∧
    w' = (w.alloc (.cells (raceCells m) 53)).alloc (.cells #[.int .i64 many] 3) := by
  obtain ⟨q, A2, c2, A3, c3, A4, c4⟩ := m
  dsimp only [RaceM.v] at *
  go_enter Try.func88, Try.ntmps88
  go_wp2
  go_ret
  exact ⟨rfl, rfl⟩
end Go.Proofs.Ytfmekjpmjefpmaa

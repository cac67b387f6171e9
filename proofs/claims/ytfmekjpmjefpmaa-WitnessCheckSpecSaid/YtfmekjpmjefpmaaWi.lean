/- Small functions of the law: member, Few; bySearch. -/
import Derived.Test.YtfmekjpmjefpmaaWh
set_option linter.unusedSimpArgs false
set_option linter.unusedVariables false
namespace Go.Proofs.Ytfmekjpmjefpmaa
open Go.RowKit

def few (q : Race) : Bool := decide ((q.clubs.length : Int) ≤ 6) && decide ((q.points.length : Int) ≤ 8) && decide ((q.games.length : Int) ≤ 10)
def bySearch (q : Race) : Bool := decide ((q.games.length : Int) ≤ 8)

theorem bySearch_any (m : RaceM) (w : World) : Calls Try.prog 41 #[m.v] w fun e w' => e = .returned (.bool (bySearch m.q)) ∧ Below w.heap.size w w' := by
  obtain ⟨q, A2, c2, A3, c3, A4, c4⟩ := m
  dsimp only [RaceM.v] at *
  go_enter Try.func41, Try.ntmps41
  go_wp2
  go_ret
  exact ⟨ret_bool (by simp [bySearch]), balloc0 _ _⟩

set_option maxHeartbeats 800000 in
theorem few_any (m : RaceM) (w : World) : Calls Try.prog 9 #[m.v] w fun e w' => e = .returned (.bool (few m.q)) ∧ Below w.heap.size w w' := by
  obtain ⟨q, A2, c2, A3, c3, A4, c4⟩ := m
  dsimp only [RaceM.v] at *
  go_enter Try.func9, Try.ntmps9
  go_wp2
  all_goals
    go_ret
    refine ⟨ret_bool ?_, balloc0 _ _⟩
    simp_all [few] <;> omega

set_option maxHeartbeats 800000 in
theorem member_any (A : Option Addr) (c : Nat) (l : List Int) (x : Int) (w : World) (hl : Row (Kd.int .i64) w A l) :
    Calls Try.prog 19 #[.slice A l.length c, .int .i64 x] w fun e w' => e = .returned (.bool (decide (x ∈ l))) ∧ w = w' := by
  have hm := hl.1
  go_enter Try.func19, Try.ntmps19
  go_wp2
  go_loopw [5] (fun i wr => ∃ k : Nat, k ≤ l.length ∧ i = .int .i64 k ∧ Hid (∀ j, j < k → rd l j ≠ x) ∧ w = wr) (fun i _ => l.length - (intOf i).toNat)
  case atStart => exact ⟨0, by omega, rfl, fun j hj => by omega, rfl⟩
  case round =>
    obtain ⟨k, hk, rfl, HN, rfl⟩ := hrel
    by_cases hlt : k < l.length
    · obtain ⟨b4, o4, rfl, hb4, hel, wl⟩ := hl.int_at hlt
      go_wp2
      · rename_i h
        go_ret
        exact ⟨ret_bool (decide_eq_true (mem_rd.2 ⟨k, hlt, by simpa using h⟩)).symm, rfl⟩
      · rename_i h
        go_roundw
        case rel =>
          refine ⟨k + 1, by omega, by go_num, fun j hj => ?_, trivial⟩
          rcases Nat.lt_or_ge j k with h' | h'
          · exact HN.out j h'
          · obtain rfl : j = k := by omega
            simpa using h
        case measure => simp [intOf]; omega
    · go_wp2
      go_ret
      obtain rfl : k = l.length := by omega
      refine ⟨ret_bool (Eq.symm (decide_eq_false fun h => ?_)), rfl⟩
      obtain ⟨i, hi, h⟩ := mem_rd.1 h
      exact HN.out i hi h
end Go.Proofs.Ytfmekjpmjefpmaa

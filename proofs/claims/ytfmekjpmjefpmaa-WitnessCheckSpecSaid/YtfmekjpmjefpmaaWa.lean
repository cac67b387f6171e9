/- The small functions of the layer witness, walked: halves, size, isSet, floor, Contains, Equal. -/
import Derived.Test.YtfmekjpmjefpmaaProg
import Derived.Test.YtfmekjpmjefpmaaPure
import Derived.Test.YtfmekjpmjefpmaaSeg
import Derived.WalkLawsBesides
import Derived.WalkSpells
import Derived.Lib.Hide
namespace Go.Proofs.Ytfmekjpmjefpmaa
open Go.RowKit

theorem ret_bool {a b : Bool} (h : a = b) : Ending.returned (.bool a) = .returned (.bool b) := by rw [h]
theorem ret_int {k : IntKind} {a b : Int} (h : a = b) : Ending.returned (.int k a) = .returned (.int k b) := by rw [h]

set_option maxHeartbeats 800000 in
theorem halves_any (m : RaceM) (w : World) (h0 : 0 ≤ m.q.draw) (h1 : m.q.draw ≤ 999) :
    Calls Try.prog 51 #[m.v] w fun e w' => e = .returned (.bool (halves m.q)) ∧ Below w.heap.size w w' := by
  go_enter Try.func51, Try.ntmps51
  go_wp2
  all_goals go_ret
  · exact ⟨ret_bool (by simp [halves, *]), (Below.refl _ _).alloc (Nat.le_refl _) _⟩
  · exact ⟨ret_bool (by simp [halves]; omega), (Below.refl _ _).alloc (Nat.le_refl _) _⟩

set_option maxHeartbeats 800000 in
theorem size_any (m : RaceM) (c : Bool) (w : World) (h0 : 1 ≤ m.q.place) (h1 : m.q.place ≤ 24) :
    Calls Try.prog 53 #[m.v, .bool c] w fun e w' => e = .returned (.int .i64 (size m.q c)) ∧ Below w.heap.size w w' := by
  cases c
  all_goals
    go_enter Try.func53, Try.ntmps53
    go_wp2
    go_ret
    exact ⟨ret_int (by simp [size]), (Below.refl _ _).alloc (Nat.le_refl _) _⟩

set_option maxHeartbeats 800000 in
theorem isSet_any (m : RaceM) (A : Option Addr) (c : Nat) (l : List Int) (w : World) (hl : Row (Kd.int .i64) w A l) (hq : m.q.clubs.length ≤ 24) :
    Calls Try.prog 52 #[m.v, .slice A l.length c] w fun e w' => e = .returned (.bool (isSet m.q l)) ∧ Below w.heap.size w w' := by
  have hm := hl.1
  go_enter Try.func52, Try.ntmps52
  go_wp2
  go_loop [9] (fun i => ∃ k : Nat, k ≤ l.length ∧ i = .int .i64 k ∧ SetP m.q.clubs.length m.q.club l k) (fun i => l.length - (intOf i).toNat)
  case atStart => exact ⟨0, by omega, rfl, fun i hi => by omega⟩
  case round =>
    obtain ⟨k, hk, rfl, hs⟩ := hrel
    have HS : Hid (SetP m.q.clubs.length m.q.club l k) := hs
    clear hs
    by_cases hlt : k < l.length
    · obtain ⟨b, o, rfl, hb, hc, hw⟩ := hl.int_at hlt
      have hbd := wf_i64 hw
      clear hw
      by_cases h0 : 0 < k
      · obtain ⟨b', o', e', hb', hc', hw'⟩ := hl.int_at (i := k - 1) (by omega)
        cases e'
        have hbd' := wf_i64 hw'
        clear hw'
        go_wp2
        all_goals first
          | (go_round
             case rel => exact ⟨k + 1, by omega, by go_num, HS.out.step (by omega) (by omega) (by assumption) (by omega)⟩
             case measure => simp [intOf]; omega)
          | (go_ret
             refine ⟨ret_bool (Eq.symm (decide_eq_false (fun h => ?_))), (Below.refl _ _).alloc (Nat.le_refl _) _⟩
             have h' := h k hlt
             simp_all <;> omega)
      · have hz : (k : Int) ≤ 0 := by omega
        go_wp2
        all_goals first
          | (go_round
             case rel => exact ⟨k + 1, by omega, by go_num, HS.out.step (by omega) (by omega) (by assumption) (by omega)⟩
             case measure => simp [intOf]; omega)
          | (go_ret
             refine ⟨ret_bool (Eq.symm (decide_eq_false (fun h => ?_))), (Below.refl _ _).alloc (Nat.le_refl _) _⟩
             have h' := h k hlt
             simp_all <;> omega)
    · go_wp2
      go_ret
      obtain rfl : k = l.length := by omega
      exact ⟨ret_bool (Eq.symm (decide_eq_true HS.out)), (Below.refl _ _).alloc (Nat.le_refl _) _⟩

def IdxPost (l : List Int) (x : Int) (w : World) (e : Ending) (w' : World) : Prop := ∃ n : Int, (0 ≤ n ↔ x ∈ l) ∧ e = .returned (.int .i64 n) ∧ w = w'
set_option maxHeartbeats 800000 in
theorem index_any (A : Option Addr) (c : Nat) (l : List Int) (x : Int) (w : World) (hl : Row (Kd.int .i64) w A l) :
    Calls Try.prog 77 #[.slice A l.length c, .int .i64 x] w (IdxPost l x w) := by
  have hm := hl.1
  go_enter Try.func77, Try.ntmps77
  go_wp2
  go_loop [8] (fun i => ∃ k : Nat, k ≤ l.length ∧ i = .int .i64 k ∧ (∀ j, j < k → rd l j ≠ x)) (fun i => l.length - (intOf i).toNat)
  case atStart => exact ⟨0, by omega, rfl, by omega⟩
  case round =>
    obtain ⟨k, hk, rfl, hn⟩ := hrel
    have HN : Hid (∀ j, j < k → rd l j ≠ x) := hn
    clear hn
    by_cases hlt : k < l.length
    · obtain ⟨b, o, rfl, hb, hc, _⟩ := hl.int_at hlt
      by_cases hx : x = rd l k
      · have hx' : (x == rd l k) = true := by simpa using hx
        have HX : Hid (x = rd l k) := hx
        clear hx
        go_wp2
        go_ret
        exact ⟨_, ⟨fun _ => mem_rd.2 ⟨k, hlt, HX.out.symm⟩, fun _ => by omega⟩, rfl, rfl⟩
      · have hx' : (x == rd l k) = false := by simpa using hx
        go_wp2
        go_round
        case rel =>
          refine ⟨k + 1, by omega, by go_num, fun j hj => ?_⟩
          rcases Nat.lt_or_ge j k with h' | h'
          · exact HN.out j h'
          · obtain rfl : j = k := by omega
            exact fun e => hx e.symm
        case measure => simp [intOf]; omega
    · go_wp2
      go_ret
      obtain rfl : k = l.length := by omega
      refine ⟨-1, ⟨fun h => by omega, fun h => ?_⟩, rfl, rfl⟩
      obtain ⟨i, hi, h⟩ := mem_rd.1 h
      exact absurd h (HN.out i hi)

set_option maxHeartbeats 800000 in
theorem contains_any (A : Option Addr) (c : Nat) (l : List Int) (x : Int) (w : World) (hl : Row (Kd.int .i64) w A l) :
    Calls Try.prog 54 #[.slice A l.length c, .int .i64 x] w fun e w' => e = .returned (.bool (decide (x ∈ l))) ∧ w = w' := by
  go_enter Try.func54, Try.ntmps54
  go_wp2_with (go_at_call 77; refine (index_any _ _ _ _ _ hl).mono ?_; rintro e w' ⟨n, hn, rfl, rfl⟩; have HN := Lib.hid hn; clear hn)
  go_ret
  exact ⟨ret_bool (by simp [HN.out]), rfl⟩

set_option maxHeartbeats 800000 in
theorem floor_any (a b : Int) (w : World) (ha : -1000000 ≤ a) (ha' : a ≤ 1000000) (hb : 0 < b) (hb' : b ≤ 999) :
    Calls Try.prog 55 #[.int .i64 a, .int .i64 b] w fun e w' => e = .returned (.int .i64 (floorI a b)) ∧ w = w' := by
  go_enter Try.func55, Try.ntmps55
  go_wp2
  all_goals go_ret
  · exact ⟨ret_int (by
      have := tdiv_bd a b 1000000 ha ha' hb
      rw [floorI, if_pos (by assumption)]
      unfold wrap64
      omega), rfl⟩
  · exact ⟨ret_int (by rw [floorI, if_neg (by omega)]), rfl⟩


end Go.Proofs.Ytfmekjpmjefpmaa

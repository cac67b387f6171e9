/- Plain words: the points after a completion, and who has more. -/
import Derived.Test.YtfmekjpmjefpmaaPure
namespace Go.Proofs.Ytfmekjpmjefpmaa
open Go Go.RowKit

def bump (l : List Int) (i x : Int) : List Int := l.set i.toNat (rd l i.toNat + x)
def stepTo (q : Race) (x : Edge) (o : Int) (p : List Int) : List Int :=
  if o = 1 then bump p x.l q.win else if o = 3 then bump p x.r q.win else bump (bump p x.l q.draw) x.r q.draw
def afterTo (q : Race) (o : List Int) : Nat → List Int
  | 0 => q.points
  | k + 1 => stepTo q (rdE q.games k) (rd o k) (afterTo q o k)
def after (q : Race) (o : List Int) : List Int := afterTo q o q.games.length
def moreTo (q : Race) (p : List Int) : Nat → Int
  | 0 => 0
  | k + 1 => moreTo q p k + if (k : Int) ≠ q.club ∧ rd p q.club.toNat < rd p k then 1 else 0
def manyTo (q : Race) (p : List Int) : Nat → Int
  | 0 => 0
  | k + 1 => manyTo q p k + if (k : Int) ≠ q.club ∧ rd p q.club.toNat ≤ rd p k then 1 else 0
def more (q : Race) (o : List Int) : Int := moreTo q (after q o) q.points.length
def many (q : Race) (o : List Int) : Int := manyTo q (after q o) q.points.length

theorem bump_len (l : List Int) (i x : Int) : (bump l i x).length = l.length := by simp [bump]
theorem stepTo_len (q : Race) (x : Edge) (o : Int) (p : List Int) : (stepTo q x o p).length = p.length := by
  unfold stepTo; split
  · exact bump_len ..
  · split
    · exact bump_len ..
    · rw [bump_len, bump_len]
theorem afterTo_len (q : Race) (o : List Int) : ∀ k, (afterTo q o k).length = q.points.length
  | 0 => rfl
  | k + 1 => by rw [afterTo, stepTo_len, afterTo_len q o k]
theorem rd_bump (l : List Int) (i x : Int) (j : Nat) : rd (bump l i x) j = rd l j + if j = i.toNat ∧ j < l.length then x else 0 := by
  simp only [bump, rd, List.getD_eq_getElem?_getD, List.getElem?_set]
  by_cases h : i.toNat = j
  · subst h
    by_cases h' : i.toNat < l.length
    · simp [h']
    · simp [h', List.getElem?_eq_none (Nat.le_of_not_lt h')]
  · rw [if_neg h, if_neg (fun e => h e.1.symm)]
    simp
theorem stepTo_bd {q : Race} (h : Good q) (x : Edge) (o : Int) (p : List Int) (N : Int) (hx : x.l ≠ x.r) (h0 : 0 ≤ x.l) (h1 : 0 ≤ x.r) (hp : ∀ i, -99999 ≤ rd p i ∧ rd p i ≤ N) :
    ∀ i, -99999 ≤ rd (stepTo q x o p) i ∧ rd (stepTo q x o p) i ≤ N + 999 := by
  intro i
  have := h.d0; have := h.d1; have := h.w1; have := hp i
  unfold stepTo
  split
  · rw [rd_bump]; split <;> omega
  · split
    · rw [rd_bump]; split <;> omega
    · rw [rd_bump, rd_bump]; split <;> split <;> omega
theorem afterTo_bd {q : Race} (h : Good q) (o : List Int) : ∀ k, k ≤ q.games.length → ∀ i, -99999 ≤ rd (afterTo q o k) i ∧ rd (afterTo q o k) i ≤ 99999 + 999 * k
  | 0, _, i => by
    simp only [afterTo]
    by_cases hi : i < q.clubs.length
    · have := h.pt i hi; omega
    · have : rd q.points i = 0 := by simp [rd, List.getD_eq_getElem?_getD, List.getElem?_eq_none (show q.points.length ≤ i by have := h.pl; omega)]
      omega
  | k + 1, hk, i => by
    have g := h.gm k (by omega)
    have := stepTo_bd h (rdE q.games k) (rd o k) (afterTo q o k) (99999 + 999 * k) g.2.2.2.2 g.1 g.2.2.1 (afterTo_bd h o k (by omega)) i
    simp only [afterTo]
    omega
theorem moreTo_bd (q : Race) (p : List Int) : ∀ k, 0 ≤ moreTo q p k ∧ moreTo q p k ≤ k
  | 0 => by simp [moreTo]
  | k + 1 => by have := moreTo_bd q p k; simp only [moreTo]; split <;> omega
theorem manyTo_bd (q : Race) (p : List Int) : ∀ k, 0 ≤ manyTo q p k ∧ manyTo q p k ≤ k
  | 0 => by simp [manyTo]
  | k + 1 => by have := manyTo_bd q p k; simp only [manyTo]; split <;> omega
end Go.Proofs.Ytfmekjpmjefpmaa

/- Plain words of the layer witness: what its functions compute, with no program in sight. -/
import Derived.Test.YtfmekjpmjefpmaaBase
namespace Go.Proofs.Ytfmekjpmjefpmaa
open Go Go.RowKit

def halves (q : Race) : Bool := decide (0 < q.draw) && (q.win == 2 * q.draw)
def size (q : Race) (certain : Bool) : Int := if certain then q.place else q.place - 1
def SetP (n club : Int) (l : List Int) (k : Nat) : Prop := ∀ i, i < k → 0 ≤ rd l i ∧ rd l i < n ∧ rd l i ≠ club ∧ (0 < i → rd l (i - 1) < rd l i)
instance (n club : Int) (l : List Int) (k : Nat) : Decidable (SetP n club l k) := by unfold SetP; exact inferInstance
def isSet (q : Race) (l : List Int) : Bool := decide (SetP q.clubs.length q.club l l.length)

theorem SetP.step {n club : Int} {l : List Int} {k : Nat} (h : SetP n club l k) (h1 : 0 ≤ rd l k) (h2 : rd l k < n) (h3 : rd l k ≠ club) (h4 : 0 < k → rd l (k - 1) < rd l k) : SetP n club l (k + 1) := by
  intro i hi
  rcases Nat.lt_or_ge i k with h' | h'
  · exact h i h'
  · obtain rfl : i = k := by omega
    exact ⟨h1, h2, h3, h4⟩

/-- A number of a list. -/
theorem mem_rd {l : List Int} {x : Int} : x ∈ l ↔ ∃ i, i < l.length ∧ rd l i = x := by
  rw [List.mem_iff_getElem]
  constructor
  · rintro ⟨i, hi, rfl⟩; exact ⟨i, hi, by simp [rd, List.getD_eq_getElem?_getD, hi]⟩
  · rintro ⟨i, hi, rfl⟩; exact ⟨i, hi, by simp [rd, List.getD_eq_getElem?_getD, hi]⟩
theorem eq_rd {a b : List Int} (hl : a.length = b.length) (h : ∀ i, i < a.length → rd a i = rd b i) : a = b := by
  refine List.ext_getElem hl fun i h1 h2 => ?_
  have := h i h1
  simpa [rd, List.getD_eq_getElem?_getD, h1, h2] using this

def floorI (a b : Int) : Int := if Int.tmod a b < 0 then Int.tdiv a b - 1 else Int.tdiv a b


def low (q : Race) : Int := rd q.points q.club.toNat
def highTo (q : Race) : Nat → Int
  | 0 => low q
  | k + 1 => highTo q k + if (rdE q.games k).l = q.club ∨ (rdE q.games k).r = q.club then q.win else 0
/-- Is a game counted in a cut? -/
def sel (certain : Bool) (cl : List Int) (x : Edge) : Bool := (decide (x.l ∈ cl) && decide (x.r ∈ cl)) || (certain && (decide (x.l ∈ cl) || decide (x.r ∈ cl)))
def gamesTo (q : Race) (certain : Bool) (cl : List Int) : Nat → List Int
  | 0 => []
  | k + 1 => gamesTo q certain cl k ++ if sel certain cl (rdE q.games k) = true then [(k : Int)] else []
def term (q : Race) (certain : Bool) (high x : Int) : Int :=
  if certain = true then (if floorI (rd q.points x.toNat - low q) q.draw < 0 then -floorI (rd q.points x.toNat - low q) q.draw else 0) else -floorI (high - rd q.points x.toNat) q.draw
def sumTo (q : Race) (certain : Bool) (high : Int) (cl : List Int) : Nat → Int
  | 0 => 0
  | k + 1 => sumTo q certain high cl k + term q certain high (rd cl k)
def fits (q : Race) (certain : Bool) (c : Cut) : Bool :=
  halves q && (isSet q c.free && (isSet q c.clubs && (decide (c.clubs.length ≠ 0) && (decide ((c.free.length : Int) = size q certain) &&
    (decide (∀ i, i < c.clubs.length → decide (rd c.clubs i ∈ c.free) = certain) && (decide (gamesTo q certain c.clubs q.games.length = c.games) &&
      decide (2 * ((gamesTo q certain c.clubs q.games.length).length : Int) < sumTo q certain (highTo q q.games.length) c.clubs c.clubs.length + if certain = true then 0 else 4 * ((gamesTo q certain c.clubs q.games.length).length : Int))))))))

theorem gamesTo_le (q : Race) (certain : Bool) (cl : List Int) : ∀ k, (gamesTo q certain cl k).length ≤ k
  | 0 => by simp [gamesTo]
  | k + 1 => by
    have := gamesTo_le q certain cl k
    simp only [gamesTo, List.length_append]
    split <;> simp <;> omega
theorem gamesTo_mem (q : Race) (certain : Bool) (cl : List Int) : ∀ k, ∀ x ∈ gamesTo q certain cl k, 0 ≤ x ∧ x < k
  | 0 => by simp [gamesTo]
  | k + 1 => fun x hx => by
    simp only [gamesTo, List.mem_append] at hx
    rcases hx with hx | hx
    · have := gamesTo_mem q certain cl k x hx; omega
    · split at hx
      · simp at hx; omega
      · simp at hx
theorem tdiv_bd (a b N : Int) (h1 : -N ≤ a) (h2 : a ≤ N) (hb : 0 < b) : -N ≤ Int.tdiv a b ∧ Int.tdiv a b ≤ N := by
  have h := Int.natAbs_tdiv a b
  have h3 : (Int.tdiv a b).natAbs ≤ a.natAbs := by rw [h]; exact Nat.div_le_self _ _
  omega
theorem floorI_bd (a b N : Int) (h1 : -N ≤ a) (h2 : a ≤ N) (hb : 0 < b) : -N - 1 ≤ floorI a b ∧ floorI a b ≤ N := by
  have := tdiv_bd a b N h1 h2 hb
  unfold floorI
  split <;> omega

theorem fits_rest {q : Race} {ce : Bool} {fr cl gs : List Int} (h1 : halves q = true) (h2 : isSet q fr = true) (h3 : isSet q cl = true) (h4 : cl.length ≠ 0) (h5 : (fr.length : Int) = size q ce) (h6 : ∀ i, i < cl.length → decide (rd cl i ∈ fr) = ce) :
    fits q ce ⟨fr, cl, gs⟩ = (decide (gamesTo q ce cl q.games.length = gs) && decide (2 * ((gamesTo q ce cl q.games.length).length : Int) < sumTo q ce (highTo q q.games.length) cl cl.length + if ce = true then 0 else 4 * ((gamesTo q ce cl q.games.length).length : Int))) := by
  rw [fits]
  dsimp only
  rw [h1, h2, h3, decide_eq_true h4, decide_eq_true h5, decide_eq_true h6]
  simp only [Bool.true_and]
theorem fits_not {q : Race} {ce : Bool} {fr cl gs : List Int} {n : Nat} (hn : n < cl.length) (h : decide (rd cl n ∈ fr) = !ce) : fits q ce ⟨fr, cl, gs⟩ = false := by
  rw [fits]
  dsimp only
  rw [show decide (∀ i, i < cl.length → decide (rd cl i ∈ fr) = ce) = false from decide_eq_false fun h' => by have := h' n hn; rw [h] at this; cases ce <;> cases this]
  simp

theorem SetP.ge {n club : Int} {l : List Int} {k : Nat} (h : SetP n club l k) : ∀ i, i < k → (i : Int) ≤ rd l i
  | 0, hi => (h 0 hi).1
  | i + 1, hi => by
    have h1 := SetP.ge h i (by omega)
    have h2 := (h (i + 1) hi).2.2.2 (by omega)
    simp only [Nat.add_sub_cancel] at h2
    omega
theorem SetP.len {n : Nat} {club : Int} {l : List Int} (h : SetP n club l l.length) : l.length ≤ n := by
  rcases Nat.eq_zero_or_pos l.length with h0 | h0
  · omega
  · have h1 := h.ge (l.length - 1) (by omega)
    have h2 := (h (l.length - 1) (by omega)).2.1
    omega

def badGame (n : Int) (x : Edge) : Bool := ((!decide (0 ≤ x.l) || !decide (x.l < n)) || (!decide (0 ≤ x.r) || !decide (x.r < n))) || (x.l == x.r)
def headBad (q : Race) : Bool := (((((((((decide (q.draw < 0) || decide (q.win < q.draw)) || decide (999 < q.win)) || decide ((q.clubs.length : Int) < 2)) || decide (24 < (q.clubs.length : Int))) || ((q.points.length : Int) != q.clubs.length)) || decide (552 < (q.games.length : Int))) || decide (q.club < 0)) || decide ((q.clubs.length : Int) ≤ q.club)) || decide (q.place < 1)) || decide ((q.clubs.length : Int) < q.place)
def clubBad (q : Race) (i : Nat) : Bool := (((decide (rd q.clubs i < 0) || decide (192 ≤ rd q.clubs i)) || (decide (0 < i) && decide (rd q.clubs i ≤ rd q.clubs (i - 1)))) || decide (rd q.points i < -99999)) || decide (99999 < rd q.points i)
def validB (q : Race) : Bool := !headBad q && (decide (∀ i, i < q.clubs.length → clubBad q i = false) && !q.games.any (badGame q.clubs.length))

/-- What a valid race gives a walk. -/
structure Good (q : Race) : Prop where
  d0 : 0 ≤ q.draw
  d1 : q.draw ≤ q.win
  w1 : q.win ≤ 999
  n0 : 2 ≤ q.clubs.length
  n1 : q.clubs.length ≤ 24
  pl : q.points.length = q.clubs.length
  g1 : q.games.length ≤ 552
  c0 : 0 ≤ q.club
  c1 : q.club < q.clubs.length
  p0 : 1 ≤ q.place
  p1 : q.place ≤ q.clubs.length
  pt : ∀ i, i < q.clubs.length → -99999 ≤ rd q.points i ∧ rd q.points i ≤ 99999
  gm : ∀ i, i < q.games.length → 0 ≤ (rdE q.games i).l ∧ (rdE q.games i).l < q.clubs.length ∧ 0 ≤ (rdE q.games i).r ∧ (rdE q.games i).r < q.clubs.length ∧ (rdE q.games i).l ≠ (rdE q.games i).r

theorem any_rdE {l : List Edge} {p : Edge → Bool} : l.any p = true ↔ ∃ i, i < l.length ∧ p (rdE l i) = true := by
  rw [List.any_eq_true]
  constructor
  · rintro ⟨x, hx, hp⟩
    obtain ⟨i, hi, rfl⟩ := List.mem_iff_getElem.1 hx
    exact ⟨i, hi, by simpa [rdE, List.getD_eq_getElem?_getD, hi] using hp⟩
  · rintro ⟨i, hi, hp⟩
    exact ⟨l[i], List.getElem_mem hi, by simpa [rdE, List.getD_eq_getElem?_getD, hi] using hp⟩

structure HeadOk (q : Race) : Prop where
  d0 : 0 ≤ q.draw
  d1 : q.draw ≤ q.win
  w1 : q.win ≤ 999
  n0 : 2 ≤ q.clubs.length
  n1 : q.clubs.length ≤ 24
  pl : q.points.length = q.clubs.length
  g1 : q.games.length ≤ 552
  c0 : 0 ≤ q.club
  c1 : q.club < q.clubs.length
  p0 : 1 ≤ q.place
  p1 : q.place ≤ q.clubs.length
theorem headOk {q : Race} (h : headBad q = false) : HeadOk q := by
  simp only [headBad, Bool.or_eq_false_iff, decide_eq_false_iff_not, bne_eq_false_iff_eq] at h
  obtain ⟨⟨⟨⟨⟨⟨⟨⟨⟨⟨h1, h2⟩, h3⟩, h4⟩, h5⟩, h6⟩, h7⟩, h8⟩, h9⟩, h10⟩, h11⟩ := h
  exact ⟨by omega, by omega, by omega, by omega, by omega, by omega, by omega, by omega, by omega, by omega, by omega⟩
theorem good_of {q : Race} (h : validB q = true) : Good q := by
  simp only [validB, Bool.and_eq_true, Bool.not_eq_true', decide_eq_true_eq] at h
  obtain ⟨h1, h2, h3⟩ := h
  have H := headOk h1
  refine ⟨H.d0, H.d1, H.w1, H.n0, H.n1, H.pl, H.g1, H.c0, H.c1, H.p0, H.p1, fun i hi => ?_, fun i hi => ?_⟩
  · have := h2 i hi
    simp only [clubBad, Bool.or_eq_false_iff, decide_eq_false_iff_not] at this
    omega
  · have h4 : badGame q.clubs.length (rdE q.games i) = false := by
      cases hb : badGame q.clubs.length (rdE q.games i) with
      | false => rfl
      | true => rw [any_rdE.2 ⟨i, hi, hb⟩] at h3; cases h3
    simp only [badGame, Bool.or_eq_false_iff, Bool.not_eq_false', decide_eq_true_eq, beq_eq_false_iff_ne] at h4
    omega
end Go.Proofs.Ytfmekjpmjefpmaa

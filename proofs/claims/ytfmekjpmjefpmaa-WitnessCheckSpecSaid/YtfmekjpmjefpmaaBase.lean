/- How arguments lie in memory, as lists and structures; what stays true of them while new memory is made. -/
import Derived.WalkKit
import Derived.WalkSpells
import Derived.Below
namespace Go.Proofs.Ytfmekjpmjefpmaa
open Go Go.RowKit

/-- All old cells and marks read as before. -/
theorem bcell {W w1 : World} (hb : Below W.heap.size W w1) : (∀ b o, b < W.heap.size → w1.cell? ⟨b, o, none⟩ = W.cell? ⟨b, o, none⟩) ∧ (∀ b o, b < W.heap.size → w1.frozen? ⟨b, o, none⟩ = W.frozen? ⟨b, o, none⟩) :=
  ⟨fun b o h => hb.cell (p := ⟨b, o, none⟩) h, fun b o h => hb.frozen (p := ⟨b, o, none⟩) h⟩

/-- A contract's world, told from where the region began. -/
theorem callB {P : Program} {f : FuncId} {args : Array Value} {B w : World} {v : Value} (hw : Below B.heap.size B w) (h : Calls P f args w fun e w' => e = .returned v ∧ Below w.heap.size w w') :
    Calls P f args w fun e w' => e = .returned v ∧ Below B.heap.size B w' := h.mono fun _ _ ⟨he, hb⟩ => ⟨he, hw.trans (hb.mono hw.size)⟩
theorem callE {P : Program} {f : FuncId} {args : Array Value} {B w : World} {v : Value} (hw : Below B.heap.size B w) (h : Calls P f args w fun e w' => e = .returned v ∧ w = w') :
    Calls P f args w fun e w' => e = .returned v ∧ Below B.heap.size B w' := h.mono fun _ _ ⟨he, hb⟩ => ⟨he, hb ▸ hw⟩

/-- A kind of data: how a value lies in cells. -/
structure Kd (α : Type) where
  sz : Nat
  K : World → α → List Value → Prop
  len : ∀ {w x cs}, K w x cs → cs.length = sz
  one : ∀ {w x cs}, K w x cs → ∀ u ∈ cs, u.oneCell' = true
  below : ∀ {w w1 : World} {x cs}, Below w.heap.size w w1 → K w x cs → K w1 x cs

/-- A row of elements that is read: A is its address. -/
def Row {α : Type} (d : Kd α) (w : World) (A : Option Addr) (xs : List α) : Prop :=
  xs.length ≤ 9223372036854775807 ∧ (xs ≠ [] → ∃ b o, A = some ⟨b, o, none⟩ ∧ b < w.heap.size ∧
    ∀ i x, xs[i]? = some x → ∃ cs, d.K w x cs ∧ ∀ j u, cs[j]? = some u → w.cell? ⟨b, o + (i * d.sz + j), none⟩ = some u)

theorem Row.below {α : Type} {d : Kd α} {w w1 : World} {A : Option Addr} {xs : List α} (h : Row d w A xs) (hb : Below w.heap.size w w1) : Row d w1 A xs := by
  refine ⟨h.1, fun hne => ?_⟩
  obtain ⟨b, o, rfl, hlt, hc⟩ := h.2 hne
  refine ⟨b, o, rfl, Nat.lt_of_lt_of_le hlt hb.size, fun i x hx => ?_⟩
  obtain ⟨cs, hk, hcs⟩ := hc i x hx
  exact ⟨cs, d.below hb hk, fun j u hu => ((bcell hb).1 _ _ hlt).trans (hcs j u hu)⟩

namespace Kd
def one1 {α : Type} (enc : α → Value) (ok : α → Prop) (h1 : ∀ x, (enc x).oneCell' = true) : Kd α where
  sz := 1
  K := fun _ x cs => cs = [enc x] ∧ ok x
  len := fun h => by rw [h.1]; rfl
  one := fun h u hu => by rw [h.1] at hu; rw [List.mem_singleton.1 hu]; exact h1 _
  below := fun _ h => h
def int (k : IntKind) : Kd Int := one1 (Value.int k) (fun n => (Lit.int k n).wf = true) (fun _ => rfl)
def bool : Kd Bool := one1 Value.bool (fun _ => True) (fun _ => rfl)
def slice {α : Type} (d : Kd α) : Kd (List α) where
  sz := 1
  K := fun w xs cs => ∃ A c, cs = [.slice A xs.length c] ∧ xs.length ≤ c ∧ Row d w A xs
  len := fun h => by obtain ⟨_, _, rfl, _⟩ := h; rfl
  one := fun h u hu => by obtain ⟨_, _, rfl, _⟩ := h; rw [List.mem_singleton.1 hu]; rfl
  below := fun hb h => by obtain ⟨A, c, rfl, hl, hr⟩ := h; exact ⟨A, c, rfl, hl, hr.below hb⟩
def pair {α β : Type} (a : Kd α) (b : Kd β) : Kd (α × β) where
  sz := a.sz + b.sz
  K := fun w x cs => ∃ c1 c2, cs = c1 ++ c2 ∧ a.K w x.1 c1 ∧ b.K w x.2 c2
  len := fun h => by obtain ⟨c1, c2, rfl, h1, h2⟩ := h; rw [List.length_append, a.len h1, b.len h2]
  one := fun h u hu => by
    obtain ⟨c1, c2, rfl, h1, h2⟩ := h
    rcases List.mem_append.1 hu with hu | hu
    · exact a.one h1 u hu
    · exact b.one h2 u hu
  below := fun hb h => by obtain ⟨c1, c2, rfl, h1, h2⟩ := h; exact ⟨c1, c2, rfl, a.below hb h1, b.below hb h2⟩
def iso {α β : Type} (d : Kd α) (f : β → α) : Kd β where
  sz := d.sz
  K := fun w x cs => d.K w (f x) cs
  len := fun h => d.len h
  one := fun h => d.one h
  below := fun hb h => d.below hb h
end Kd

/-- Element i of a list of numbers. -/
def rd (xs : List Int) (i : Nat) : Int := xs.getD i 0
theorem rd_get {xs : List Int} {i : Nat} (h : i < xs.length) : xs[i]? = some (rd xs i) := by
  rw [rd, List.getD_eq_getElem?_getD, List.getElem?_eq_getElem h]; rfl

/-- An element of a row of numbers. -/
theorem Row.int_at {k : IntKind} {w : World} {A : Option Addr} {xs : List Int} (h : Row (Kd.int k) w A xs) {i : Nat} (hi : i < xs.length) :
    ∃ b o, A = some ⟨b, o, none⟩ ∧ b < w.heap.size ∧ w.cell? ⟨b, o + i, none⟩ = some (.int k (rd xs i)) ∧ (Lit.int k (rd xs i)).wf = true := by
  obtain ⟨b, o, rfl, hlt, hc⟩ := h.2 (by intro e; rw [e] at hi; simp at hi)
  obtain ⟨cs, ⟨rfl, hwf⟩, hcs⟩ := hc i _ (rd_get hi)
  refine ⟨b, o, rfl, hlt, ?_, hwf⟩
  have := hcs 0 _ rfl
  simpa [Kd.int, Kd.one1] using this
theorem Row.int_wf {k : IntKind} {w : World} {A : Option Addr} {xs : List Int} (h : Row (Kd.int k) w A xs) (i : Nat) (hi : i < xs.length) : (Lit.int k (rd xs i)).wf = true := by
  obtain ⟨_, _, _, _, _, hw⟩ := h.int_at hi; exact hw
theorem wf_i64 {n : Int} (h : (Lit.int .i64 n).wf = true) : -9223372036854775808 ≤ n ∧ n ≤ 9223372036854775807 := by
  have h1 : IntKind.i64.min = -9223372036854775808 := rfl
  have h2 : IntKind.i64.max = 9223372036854775807 := rfl
  simp only [Lit.wf, Bool.and_eq_true, decide_eq_true_eq, h1, h2] at h
  exact h
theorem wf_u64 {n : Int} (h : (Lit.int .u64 n).wf = true) : 0 ≤ n ∧ n ≤ 18446744073709551615 := by
  have h1 : IntKind.u64.min = 0 := rfl
  have h2 : IntKind.u64.max = 18446744073709551615 := rfl
  simp only [Lit.wf, Bool.and_eq_true, decide_eq_true_eq, h1, h2] at h
  exact h
theorem wf_u8 {n : Int} (h : (Lit.int .u8 n).wf = true) : 0 ≤ n ∧ n ≤ 255 := by
  have h1 : IntKind.u8.min = 0 := rfl
  have h2 : IntKind.u8.max = 255 := rfl
  simp only [Lit.wf, Bool.and_eq_true, decide_eq_true_eq, h1, h2] at h
  exact h


/-! ### races, cuts, verdicts -/
structure Edge where
  l : Int
  r : Int
  deriving DecidableEq
structure Race where
  win : Int
  draw : Int
  clubs : List Int
  points : List Int
  games : List Edge
  club : Int
  place : Int
structure Cut where
  free : List Int
  clubs : List Int
  games : List Int
structure Verdict where
  kind : Int
  reached : List Int
  missed : List Int
  cuts : List Cut

def Kd.edge : Kd Edge := Kd.iso (Kd.pair (Kd.int .i64) (Kd.int .i64)) (fun x => (x.l, x.r))
def Kd.cut : Kd Cut := Kd.iso (Kd.pair (Kd.slice (Kd.int .i64)) (Kd.pair (Kd.slice (Kd.int .i64)) (Kd.slice (Kd.int .i64)))) (fun x => (x.free, x.clubs, x.games))

/-- A race as it came in: where its lists lie. -/
structure RaceM where
  q : Race
  A2 : Option Addr
  c2 : Nat
  A3 : Option Addr
  c3 : Nat
  A4 : Option Addr
  c4 : Nat
abbrev RaceM.v (m : RaceM) : Value := .agg #[.int .i64 m.q.win, .int .i64 m.q.draw, .slice m.A2 m.q.clubs.length m.c2, .slice m.A3 m.q.points.length m.c3, .slice m.A4 m.q.games.length m.c4, .int .i64 m.q.club, .int .i64 m.q.place]
structure RaceIn (w : World) (m : RaceM) : Prop where
  h2 : Row (Kd.int .i64) w m.A2 m.q.clubs
  h3 : Row (Kd.int .i64) w m.A3 m.q.points
  h4 : Row Kd.edge w m.A4 m.q.games
  wwin : (Lit.int .i64 m.q.win).wf = true
  wdraw : (Lit.int .i64 m.q.draw).wf = true
  wclub : (Lit.int .i64 m.q.club).wf = true
  wplace : (Lit.int .i64 m.q.place).wf = true
theorem RaceIn.below {w w1 : World} {m : RaceM} (h : RaceIn w m) (hb : Below w.heap.size w w1) : RaceIn w1 m :=
  ⟨h.h2.below hb, h.h3.below hb, h.h4.below hb, h.wwin, h.wdraw, h.wclub, h.wplace⟩

structure CutM where
  c : Cut
  A0 : Option Addr
  c0 : Nat
  A1 : Option Addr
  c1 : Nat
  A2 : Option Addr
  c2 : Nat
abbrev CutM.v (m : CutM) : Value := .agg #[.slice m.A0 m.c.free.length m.c0, .slice m.A1 m.c.clubs.length m.c1, .slice m.A2 m.c.games.length m.c2]
structure CutIn (w : World) (m : CutM) : Prop where
  h0 : Row (Kd.int .i64) w m.A0 m.c.free
  h1 : Row (Kd.int .i64) w m.A1 m.c.clubs
  h2 : Row (Kd.int .i64) w m.A2 m.c.games
theorem CutIn.below {w w1 : World} {m : CutM} (h : CutIn w m) (hb : Below w.heap.size w w1) : CutIn w1 m :=
  ⟨h.h0.below hb, h.h1.below hb, h.h2.below hb⟩

structure VerdictM where
  v : Verdict
  A1 : Option Addr
  c1 : Nat
  A2 : Option Addr
  c2 : Nat
  A3 : Option Addr
  c3 : Nat
abbrev VerdictM.val (m : VerdictM) : Value := .agg #[.int .i64 m.v.kind, .slice m.A1 m.v.reached.length m.c1, .slice m.A2 m.v.missed.length m.c2, .slice m.A3 m.v.cuts.length m.c3]
structure VerdictIn (w : World) (m : VerdictM) : Prop where
  h1 : Row (Kd.int .i64) w m.A1 m.v.reached
  h2 : Row (Kd.int .i64) w m.A2 m.v.missed
  h3 : Row Kd.cut w m.A3 m.v.cuts
  wkind : (Lit.int .i64 m.v.kind).wf = true
theorem VerdictIn.below {w w1 : World} {m : VerdictM} (h : VerdictIn w m) (hb : Below w.heap.size w w1) : VerdictIn w1 m :=
  ⟨h.h1.below hb, h.h2.below hb, h.h3.below hb, h.wkind⟩

def rdE (xs : List Edge) (i : Nat) : Edge := xs.getD i ⟨0, 0⟩
theorem rdE_get {xs : List Edge} {i : Nat} (h : i < xs.length) : xs[i]? = some (rdE xs i) := by
  rw [rdE, List.getD_eq_getElem?_getD, List.getElem?_eq_getElem h]; rfl
theorem Row.edge_at {w : World} {A : Option Addr} {xs : List Edge} (h : Row Kd.edge w A xs) {i : Nat} (hi : i < xs.length) :
    ∃ b o, A = some ⟨b, o, none⟩ ∧ b < w.heap.size ∧ w.cell? ⟨b, o + i * 2, none⟩ = some (.int .i64 (rdE xs i).l) ∧ w.cell? ⟨b, o + i * 2 + 1, none⟩ = some (.int .i64 (rdE xs i).r) ∧
      (Lit.int .i64 (rdE xs i).l).wf = true ∧ (Lit.int .i64 (rdE xs i).r).wf = true := by
  obtain ⟨b, o, rfl, hlt, hc⟩ := h.2 (by intro e; rw [e] at hi; simp at hi)
  obtain ⟨cs, ⟨c1, c2, rfl, ⟨rfl, w1⟩, ⟨rfl, w2⟩⟩, hcs⟩ := hc i _ (rdE_get hi)
  refine ⟨b, o, rfl, hlt, ?_, ?_, w1, w2⟩
  · have := hcs 0 _ rfl
    simpa [Kd.edge, Kd.iso, Kd.pair, Kd.int, Kd.one1] using this
  · have := hcs 1 _ rfl
    simpa [Kd.edge, Kd.iso, Kd.pair, Kd.int, Kd.one1, Nat.add_assoc] using this
end Go.Proofs.Ytfmekjpmjefpmaa

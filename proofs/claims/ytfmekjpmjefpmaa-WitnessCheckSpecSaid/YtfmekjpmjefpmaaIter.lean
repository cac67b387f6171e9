/- Ranges over a function whose elements are lists of numbers in memory: the contract of an iterator, the law for its caller. -/
import Derived.Test.YtfmekjpmjefpmaaSeg2
import Derived.Test.YtfmekjpmjefpmaaOwn
import Derived.RangeFuncNested
import Derived.RangeFuncCalls
import Derived.RangeFuncLeaves
import Derived.OwnWalkIn
import Derived.TacticsInMore
import Derived.LoopNIn
import Derived.LoopIn
namespace Go.Proofs.Ytfmekjpmjefpmaa
open Go Go.RowKit

/-- All blocks but those of M lie as they lay. -/
structure Kept (M : Nat → Prop) (w w' : World) : Prop where
  os : w'.os = w.os
  tape : w'.tape = w.tape
  output : w'.output = w.output
  size : w.heap.size ≤ w'.heap.size
  block : ∀ b, b < w.heap.size → ¬ M b → w'.heap[b]? = w.heap[b]?
theorem Kept.refl (M : Nat → Prop) (w : World) : Kept M w w := ⟨rfl, rfl, rfl, Nat.le_refl _, fun _ _ _ => rfl⟩
theorem Kept.trans {M : Nat → Prop} {a b c : World} (h : Kept M a b) (k : Kept M b c) : Kept M a c :=
  ⟨k.os.trans h.os, k.tape.trans h.tape, k.output.trans h.output, Nat.le_trans h.size k.size, fun i hi hm => (k.block i (Nat.lt_of_lt_of_le hi h.size) hm).trans (h.block i hi hm)⟩
theorem Kept.of_below {M : Nat → Prop} {w w' : World} (h : Below w.heap.size w w') : Kept M w w' := ⟨h.os, h.tape, h.output, h.size, fun b hb _ => h.block b hb⟩
theorem Kept.mono {M M' : Nat → Prop} {w w' : World} (h : Kept M w w') (hM : ∀ b, M b → M' b) : Kept M' w w' := ⟨h.os, h.tape, h.output, h.size, fun b hb hm => h.block b hb (fun h => hm (hM b h))⟩
theorem Kept.setCell {M : Nat → Prop} {a w : World} (h : Kept M a w) {p : Addr} (hp : M p.block) (u : Value) : Kept M a (w.setCell p u) :=
  ⟨h.os, h.tape, h.output, by simpa [World.setCell] using h.size, fun b hb hm => (Below.heap_setCell w p u b (fun e => hm (by rw [e]; exact hp))).trans (h.block b hb hm)⟩
theorem Kept.cell {M : Nat → Prop} {w w' : World} (h : Kept M w w') {p : Addr} (hp : p.block < w.heap.size) (hm : ¬ M p.block) : w'.cell? p = w.cell? p := World.cell?_of_block (h.block _ hp hm)
theorem Kept.frozen {M : Nat → Prop} {w w' : World} (h : Kept M w w') {p : Addr} (hp : p.block < w.heap.size) (hm : ¬ M p.block) : w'.frozen? p = w.frozen? p := World.frozen?_of_block (h.block _ hp hm)
theorem Kept.putObj {M : Nat → Prop} {a w : World} (h : Kept M a w) {l : Nat} (hl : M l) (o : Obj) : Kept M a (w.putObj l o) :=
  ⟨h.os, h.tape, h.output, by simpa using h.size, fun b hb hm => (World.putObj_heap_other (fun e => hm (by rw [e]; exact hl))).trans (h.block b hb hm)⟩
theorem Box.kept {M : Nat → Prop} {w w' : World} {b : Nat} {C : Array Value} (h : Box w b C) (hk : Kept M w w') (hm : ¬ M b) : Box w' b C :=
  ⟨Nat.lt_of_lt_of_le h.lt hk.size, fun j => (hk.cell (p := ⟨b, j, none⟩) h.lt hm).trans (h.cell j), fun j => (hk.frozen (p := ⟨b, j, none⟩) h.lt hm).trans (h.free j)⟩
theorem Kept.below {M : Nat → Prop} {N : Nat} {w w' : World} (h : Kept M w w') (hM : ∀ b, M b → N ≤ b) (hN : N ≤ w.heap.size) : Below N w w' :=
  ⟨h.os, h.tape, h.output, h.size, fun b hb => h.block b (Nat.lt_of_lt_of_le hb hN) (fun hm => by have := hM b hm; omega)⟩
theorem below_putObj {B l : Nat} {a w : World} (h : Below B a w) (hl : B ≤ l) (o : Obj) : Below B a (w.putObj l o) :=
  ⟨h.os, h.tape, h.output, by simpa using h.size, fun k hk => (World.putObj_heap_other (by omega)).trans (h.block k hk)⟩

/-- A list of numbers that is read; its block lies from N on. -/
def RowN (N : Nat) (w : World) (A : Option Addr) (xs : List Int) : Prop := Row (Kd.int .i64) w A xs ∧ ∀ a, A = some a → N ≤ a.block
theorem RowN.below {N : Nat} {w w1 : World} {A : Option Addr} {xs : List Int} (h : RowN N w A xs) (hb : Below w.heap.size w w1) : RowN N w1 A xs := ⟨h.1.below hb, h.2⟩
theorem RowN.kept {M : Nat → Prop} {N : Nat} {w w' : World} {A : Option Addr} {xs : List Int} (h : RowN N w A xs) (hk : Kept M w w') (hM : ∀ b, M b → b < N) : RowN N w' A xs := by
  refine ⟨⟨h.1.1, fun hne => ?_⟩, h.2⟩
  obtain ⟨b, o, rfl, hlt, hc⟩ := h.1.2 hne
  refine ⟨b, o, rfl, Nat.lt_of_lt_of_le hlt hk.size, fun i x hx => ?_⟩
  obtain ⟨cs, hK, hcs⟩ := hc i x hx
  exact ⟨cs, hK, fun j u hu => (hk.cell (p := ⟨b, o + (i * (Kd.int .i64).sz + j), none⟩) hlt (fun hm => by have := hM _ hm; have := h.2 _ rfl; simp only at *; omega)).trans (hcs j u hu)⟩

/-- **The contract of an iterator of lists**: 'caps' are the blocks that it has captured; 'Dat' says what it reads there. The caller names the blocks M that its rounds write. -/
def Seq (P : Program) (gf : Nat) (lb : Array Value) (xs : List (List Int)) (caps : Nat → Prop) (Dat : World → Prop) : Prop :=
  ∀ (l : Nat) (M : Nat → Prop) (J : Nat → World → Prop) (Jx : World → Prop) (W : World),
    Dat W → (∀ b, caps b → b < W.heap.size ∧ ¬ M b) → (∀ b, M b → b < W.heap.size) →
    (∀ k W1 W2, J k W1 → W.heap.size ≤ W1.heap.size → Below W.heap.size W1 W2 → J k W2) → (∀ W1 W2, Jx W1 → W.heap.size ≤ W1.heap.size → Below W.heap.size W1 W2 → Jx W2) →
    (∀ k x W1 A c, xs[k]? = some x → J k W1 → x.length ≤ c → RowN W.heap.size W1 A x → W.heap.size ≤ W1.heap.size →
      YieldAt Fence.wide 0 P l #[.slice A x.length c] W1 fun e W' => (e = .returned (.bool true) ∧ J (k + 1) W' ∧ Kept M W1 W') ∨ (e = .returned (.bool false) ∧ Jx W' ∧ W1.heap.size ≤ W'.heap.size)) →
    J 0 W →
    Calls P gf (#[.func (.yield l) #[] #[]] ++ lb) W fun e W' => (∃ v, e = .returned v) ∧ (J xs.length W' ∨ Jx W')

/-- How the body of a round may be left. -/
def bodyEnd (M : Nat → Prop) (I : Nat → World → Prop) (Ix : Code → World → Prop) (k : Nat) (W : World) : Exit → Act → World → Prop
  | .normal, _, W' => Kept M W W' ∧ I (k + 1) W'
  | .ret, _, W' => Kept M W W' ∧ Ix .ret W'
  | .exit id, _, W' => Kept M W W' ∧ Ix (.exit id) W'
  | .goto t, _, W' => Kept M W W' ∧ Ix (.goto t) W'
  | .panic _, _, _ => False
  | .outgrown, _, _ => False

/-- **The caller's law**: 'for x := range seq { .. }'. -/
theorem range_law {P : Program} {g : Operand} {p : Tmp} {assign body : Code} {Q : Exit → Act → World → Prop} {a : Act} {w : World} {gf : Nat} {lb : Array Value} {xs : List (List Int)} {caps : Nat → Prop} {Dat : World → Prop}
    (hg : a.eval g = .func (.func gf) #[] lb) (eg : ∀ args w, (callFunc gf args).run P w = .ok (.enter gf args) w) (hseq : Seq P gf lb xs caps Dat)
    (hD : ∀ W1, Below w.heap.size w W1 → Dat W1) (M : Nat → Prop) (hc : ∀ b, caps b → b < w.heap.size ∧ ¬ M b) (hM : ∀ b, M b → b < w.heap.size)
    (I : Nat → World → Prop) (Ix : Code → World → Prop) (hI : ∀ k W1 W2, I k W1 → w.heap.size ≤ W1.heap.size → Below w.heap.size W1 W2 → I k W2) (hIx : ∀ c W1 W2, Ix c W1 → w.heap.size ≤ W1.heap.size → Below w.heap.size W1 W2 → Ix c W2) (h0 : I 0 w) (a₁ : Value → Act)
    (hassign : ∀ (l : Nat) (v : Value) (W : World) (K : Act → World → Prop), K (a₁ v) W →
      assign.wpIn (Fence.wide.inRound l) 0 P (Exit.then K (fun _ _ _ => False)) { tmps := a.tmps.setIfInBounds p v, defers := [] } W)
    (hbody : ∀ (l k : Nat) (x : List Int) (W : World) (A : Option Addr) (c : Nat), xs[k]? = some x → I k W → x.length ≤ c → Row (Kd.int .i64) W A x → w.heap.size + 1 < W.heap.size →
      body.wpIn (Fence.wide.inRound l) 0 P (bodyEnd M I Ix k W) (a₁ (.slice A x.length c)) W)
    (hdone : ∀ (D : Nat) (W : World), w.heap.size ≤ D → I xs.length W → W.heap[D]? = some (.deferred (some [])) → Q .normal { a with defers := { target := .collected D, args := #[] } :: a.defers } W)
    (hstop : ∀ (D : Nat) (c : Code) (W : World), w.heap.size ≤ D → Ix c W → W.heap[D]? = some (.deferred (some [])) → c.wpIn Fence.wide 0 P Q { a with defers := { target := .collected D, args := #[] } :: a.defers } W) :
    (Code.rangeFunc g #[p] assign body).wpIn Fence.wide 0 P Q a w := by
  refine wpIn_rangeFunc ?_
  intro fn hfn
  show ∃ l mark w₁ d w₁' f args w₂, (Instr.enterLoop fn a.tmps #[p] assign body none).run P w = _ ∧ _
  obtain ⟨rec, hrec⟩ : ∃ rec : LoopState → Option Code → Loop, rec = fun st pe => { state := st, pending := pe, fn, tmps := a.tmps, params := #[p], assign, body, defers := w.heap.size } := ⟨_, rfl⟩
  obtain ⟨W1, hW1⟩ : ∃ W1, (w.alloc (.deferred (some []))).alloc (.loop (rec .ready none)) = W1 := ⟨_, rfl⟩
  have hL1 : W1.heap[w.heap.size + 1]? = some (.loop (rec .ready none)) := by
    rw [← hW1]; have := World.alloc_heap_new (w.alloc (.deferred (some []))) (.loop (rec .ready none)); rwa [World.size_alloc] at this
  have hK1 : W1.heap[w.heap.size]? = some (.deferred (some [])) := by
    rw [← hW1]; exact (Below.heap_alloc _ _ _ (by simp)).trans (World.alloc_heap_new w _)
  have hb1 : Below w.heap.size w W1 := by rw [← hW1]; exact balloc (balloc0 _ _) _
  have hs1 : W1.heap.size = w.heap.size + 2 := by rw [← hW1]; simp
  have hI1 : I 0 W1 := hI _ _ _ h0 (Nat.le_refl _) hb1
  refine ⟨w.heap.size + 1, [{ target := .collected w.heap.size, args := #[] }], W1, { target := .fn (.func gf) lb, args := #[.func (.yield (w.heap.size + 1)) #[] #[]] }, W1, gf,
    #[.func (.yield (w.heap.size + 1)) #[] #[]] ++ lb, W1, ?_, ?_, ?_, ?_, fun h => by simp [Fence.wide] at h, ?_⟩
  · rw [← hW1, hrec]; exact run_enterLoop_outer _ _ _ _ _
  · simp only [resolve, hg]
    simp [go_sem]
  · intro f' hf'; exact trivial
  · simp [invoke, go_sem, eg]
  · refine callsIn_wide.2 ?_
    have hlow : ∀ {A B : World}, Below W1.heap.size A B → Below w.heap.size A B := fun h => h.mono hb1.size
    have hblk : ∀ {A B : World} {k : Nat} {o : Obj}, Below W1.heap.size A B → k < W1.heap.size → A.heap[k]? = some o → B.heap[k]? = some o := fun h hk he => (h.block _ hk).trans he
    refine (hseq (w.heap.size + 1) (fun b => M b ∨ b = w.heap.size + 1)
      (fun k W => I k W ∧ W.heap[w.heap.size + 1]? = some (.loop (rec .ready none)) ∧ W.heap[w.heap.size]? = some (.deferred (some [])))
      (fun W => ∃ c, Ix c W ∧ W.heap[w.heap.size + 1]? = some (.loop (rec .done (some c))) ∧ W.heap[w.heap.size]? = some (.deferred (some [])))
      W1 (hD _ hb1) (fun b hb => ⟨by have := (hc b hb).1; omega, fun h => by
        rcases h with h | h
        · exact (hc b hb).2 h
        · have := (hc b hb).1; omega⟩) (fun b hb => by
        rcases hb with h | h
        · have := hM b h; omega
        · omega)
      (fun k A B ⟨hi, hl, hk⟩ hs hb => ⟨hI _ _ _ hi (by omega) (hlow hb), hblk hb (by omega) hl, hblk hb (by omega) hk⟩)
      (fun A B ⟨c, hi, hl, hk⟩ hs hb => ⟨c, hIx _ _ _ hi (by omega) (hlow hb), hblk hb (by omega) hl, hblk hb (by omega) hk⟩)
      ?_ ⟨hI1, hL1, hK1⟩).mono ?_
    · -- one round
      rintro k x W A c hx ⟨hi, hl, hk⟩ hxc hrow hsW
      have hlt : w.heap.size + 1 < W.heap.size := (Array.getElem?_eq_some_iff.1 hl).1
      have hy := run_yield (P := P) (args := #[.slice A x.length c]) hl (by rw [hrec]; rfl)
      rw [hrec] at hy
      refine ⟨fn, a.tmps.setIfInBounds p (.slice A x.length c), assign, body, by rw [hy]; simp, roundIn_of_wpIn (F := Fence.wide) trivial ?_⟩
      clear hy
      refine hassign (w.heap.size + 1) (.slice A x.length c) W _ ⟨_, run_beginRound hl (by rw [hrec]), ?_⟩
      have hb2 : Below (w.heap.size + 1) W (W.putObj (w.heap.size + 1) (.loop { rec .ready none with state := .busy })) := below_putObj (Below.refl _ _) (Nat.le_refl _) _
      have hl2 : (W.putObj (w.heap.size + 1) (.loop { rec .ready none with state := .busy })).heap[w.heap.size + 1]? = some (.loop { rec .ready none with state := .busy }) := World.putObj_heap_same hlt
      have hk2 : (W.putObj (w.heap.size + 1) (.loop { rec .ready none with state := .busy })).heap[w.heap.size]? = some (.deferred (some [])) := (World.putObj_heap_other (by omega)).trans hk
      have hi2 : I k (W.putObj (w.heap.size + 1) (.loop { rec .ready none with state := .busy })) := hI _ _ _ hi (by omega) (hb2.mono (by omega))
      have hr2 : RowN W1.heap.size (W.putObj (w.heap.size + 1) (.loop { rec .ready none with state := .busy })) A x := hrow.kept (M := fun b => b = w.heap.size + 1) (Kept.putObj (M := fun b => b = w.heap.size + 1) (Kept.refl _ _) (l := w.heap.size + 1) rfl _) (fun b hb => by omega)
      refine wpIn_mono (hbody _ k x _ A c hx hi2 hxc hr2.1 (by simpa using hlt)) ?_
      have fin : ∀ (jump : Option Code) (W3 : World), Kept M (W.putObj (w.heap.size + 1) (.loop { rec .ready none with state := .busy })) W3 →
          (Instr.endRound (w.heap.size + 1) jump).run P W3 = .ok (.bool jump.isNone) (W3.putObj (w.heap.size + 1) (.loop (rec (if jump.isNone then .ready else .done) jump))) ∧
          Below w.heap.size W3 (W3.putObj (w.heap.size + 1) (.loop (rec (if jump.isNone then .ready else .done) jump))) ∧ W.heap.size ≤ W3.heap.size ∧
          (W3.putObj (w.heap.size + 1) (.loop (rec (if jump.isNone then .ready else .done) jump))).heap[w.heap.size + 1]? = some (.loop (rec (if jump.isNone then .ready else .done) jump)) ∧
          (W3.putObj (w.heap.size + 1) (.loop (rec (if jump.isNone then .ready else .done) jump))).heap[w.heap.size]? = some (.deferred (some [])) ∧
          Kept (fun b => M b ∨ b = w.heap.size + 1) W (W3.putObj (w.heap.size + 1) (.loop (rec (if jump.isNone then .ready else .done) jump))) := fun jump W3 hk3 => by
        have hz3 := hk3.size
        rw [World.putObj_size] at hz3
        have hl3 : W3.heap[w.heap.size + 1]? = some (.loop { rec .ready none with state := .busy }) := (hk3.block _ (by simpa using hlt) (fun h => by have := hM _ h; omega)).trans hl2
        have hd3 : W3.heap[w.heap.size]? = some (.deferred (some [])) := (hk3.block _ (by simp; omega) (fun h => by have := hM _ h; omega)).trans hk2
        have hr := run_endRound (P := P) jump hl3
        rw [hrec] at hr ⊢
        refine ⟨hr, below_putObj (Below.refl _ _) (Nat.le_succ _) _, hz3, World.putObj_heap_same (Array.getElem?_eq_some_iff.1 hl3).1, (World.putObj_heap_other (by omega)).trans hd3, ?_⟩
        exact Kept.putObj ((Kept.putObj (M := fun b => M b ∨ b = w.heap.size + 1) (Kept.refl _ _) (.inr rfl) _).trans (by rw [hrec] at hk3; exact hk3.mono fun b h => .inl h)) (.inr rfl) _
      rintro e a3 W3 hp
      cases e with
      | normal =>
        obtain ⟨hk3, hi3⟩ := hp
        obtain ⟨hr, hb3, hz3, hl4, hk4, hkp⟩ := fin none W3 hk3
        exact ⟨_, _, hr, .inl ⟨rfl, ⟨hI _ _ _ hi3 (by omega) hb3, hl4, hk4⟩, hkp⟩⟩
      | ret =>
        obtain ⟨hk3, hi3⟩ := hp
        obtain ⟨hr, hb3, hz3, hl4, hk4, hkp⟩ := fin (some .ret) W3 hk3
        exact ⟨_, _, hr, .inr ⟨rfl, ⟨.ret, hIx _ _ _ hi3 (by omega) hb3, hl4, hk4⟩, hkp.size⟩⟩
      | exit id =>
        obtain ⟨hk3, hi3⟩ := hp
        obtain ⟨hr, hb3, hz3, hl4, hk4, hkp⟩ := fin (some (.exit id)) W3 hk3
        exact ⟨_, _, hr, .inr ⟨rfl, ⟨.exit id, hIx _ _ _ hi3 (by omega) hb3, hl4, hk4⟩, hkp.size⟩⟩
      | goto t =>
        obtain ⟨hk3, hi3⟩ := hp
        obtain ⟨hr, hb3, hz3, hl4, hk4, hkp⟩ := fin (some (.goto t)) W3 hk3
        exact ⟨_, _, hr, .inr ⟨rfl, ⟨.goto t, hIx _ _ _ hi3 (by omega) hb3, hl4, hk4⟩, hkp.size⟩⟩
      | panic ch => exact hp.elim
      | outgrown => exact hp.elim
    · -- behind the iterator
      rintro e W2 ⟨⟨v, rfl⟩, (⟨hi, hl, hk⟩ | ⟨c, hi, hl, hk⟩)⟩
      · have hz := (Array.getElem?_eq_some_iff.1 hl).1
        refine ⟨none, _, by have := run_endLoop (P := P) hl (by rw [hrec]; simp); rw [hrec] at this; exact this, ?_⟩
        exact hdone _ _ (Nat.le_refl _) (hI _ _ _ hi (by omega) (below_putObj (Below.refl _ _) (Nat.le_succ _) _)) ((World.putObj_heap_other (by omega)).trans hk)
      · have hz := (Array.getElem?_eq_some_iff.1 hl).1
        refine ⟨some c, _, by have := run_endLoop (P := P) hl (by rw [hrec]; simp); rw [hrec] at this; exact this, ?_⟩
        exact hstop _ c _ (Nat.le_refl _) (hIx _ _ _ hi (by omega) (below_putObj (Below.refl _ _) (Nat.le_succ _) _)) ((World.putObj_heap_other (by omega)).trans hk)
end Go.Proofs.Ytfmekjpmjefpmaa

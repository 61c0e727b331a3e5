/-
  The law of a range over a function whose rounds are told what the iterator knows, where the caller's own blocks are told by their objects too (rows that grow in a round). By this session, out of its own program (wip/gen).
-/
import Derived.Test.YtmdbbfoejmakdaaDoorHrng2
import Derived.Test.YtmdbbfoejmakdaaDoorHwalk
namespace Go.Proofs.YtmdbbfoejmakdaaDoor.Ha
open Go.RowKit
set_option linter.unusedVariables false
/-- The caller's own blocks: by number and object. -/
abbrev Own := Nat → Option Obj → Prop
/-- All but the caller's own blocks lie as they lay. -/
structure But3 (own : Own) (W0 W : World) : Prop where
  os : W.os = W0.os
  tape : W.tape = W0.tape
  output : W.output = W0.output
  size : W0.heap.size ≤ W.heap.size
  block : ∀ k, k < W0.heap.size → ¬ own k W0.heap[k]? → W.heap[k]? = W0.heap[k]?
theorem But3.refl (own : Own) (W : World) : But3 own W W := ⟨rfl, rfl, rfl, Nat.le_refl _, fun _ _ _ => rfl⟩
theorem But3.trans {own : Own} {A B C : World} (h : But3 own A B) (k : But3 own B C) : But3 own A C :=
  ⟨k.os.trans h.os, k.tape.trans h.tape, k.output.trans h.output, Nat.le_trans h.size k.size, fun i h1 h2 => by
    have e := h.block i h1 h2
    exact (k.block i (Nat.lt_of_lt_of_le h1 h.size) (by rw [e]; exact h2)).trans e⟩
theorem But3.of_below {own : Own} {A B : World} (h : Below A.heap.size A B) : But3 own A B := ⟨h.os, h.tape, h.output, h.size, fun k h1 _ => h.block k h1⟩
theorem But3.below {own : Own} {W0 W W' : World} (h : But3 own W0 W) (hb : Below W.heap.size W W') : But3 own W0 W' := h.trans (But3.of_below hb)
theorem But3.setCell1 {own : Own} (W : World) (a : Addr) (v : Value) (ho : own a.block W.heap[a.block]?) : But3 own W (W.setCell a v) :=
  ⟨rfl, rfl, rfl, (KeepsOthers.setCell W a v).size, fun k h1 h2 => Below.heap_setCell W a v k (fun e => h2 (by rw [e]; exact ho))⟩
theorem But3.setCell {own : Own} {W0 W : World} (h : But3 own W0 W) (a : Addr) (v : Value) (ho : own a.block W.heap[a.block]?) : But3 own W0 (W.setCell a v) := h.trans (But3.setCell1 W a v ho)
theorem But3.drew {own : Own} {W0 W : World} (h : But3 own W0 W) : But3 own W0 W.drew := ⟨h.os, h.tape, h.output, h.size, h.block⟩
theorem But3.under {own : Own} {W0 W : World} (h : But3 own W0 W) {n : Nat} (hn : ∀ k o, k < n → ¬ own k o) (hs : n ≤ W0.heap.size) : Below n W0 W :=
  ⟨h.os, h.tape, h.output, h.size, fun k hk => h.block k (by omega) (hn k _ hk)⟩
theorem But3.cell {own : Own} {W0 W : World} (h : But3 own W0 W) {b j : Nat} (hb : b < W0.heap.size) (ho : ∀ o, ¬ own b o) : W.cell? ⟨b, j, none⟩ = W0.cell? ⟨b, j, none⟩ := World.cell?_of_block (h.block b hb (ho _))
theorem But3.frozen {own : Own} {W0 W : World} (h : But3 own W0 W) {b j : Nat} (hb : b < W0.heap.size) (ho : ∀ o, ¬ own b o) : W.frozen? ⟨b, j, none⟩ = W0.frozen? ⟨b, j, none⟩ := World.frozen?_of_block (h.block b hb (ho _))
theorem But3.own {β : Type} (own : Own) (W0 : World) : OwnFrom W0.heap.size (fun (_ : β) W => But3 own W0 W) := fun s A B row hs hg hr =>
  ⟨hg.os.trans hs.os, hg.tape.trans hs.tape, hg.output.trans hs.output, Nat.le_trans hs.size hg.size, fun k h1 h2 => (hg.block k (Nat.lt_of_lt_of_le h1 hs.size) (fun e => by have := (hr k e.symm).1; omega)).trans (hs.block k h1 h2)⟩
theorem But3.stays {β : Type} (own : Own) (W0 : World) : Stays (fun (_ : β) W => But3 own W0 W) := fun s A B hs hb => hs.below hb
theorem But3.mono {own own' : Own} {A B : World} (h : But3 own A B) (ho : ∀ k o, own k o → own' k o) : But3 own' A B := ⟨h.os, h.tape, h.output, h.size, fun k h1 h2 => h.block k h1 (fun e => h2 (ho k _ e))⟩
theorem But3.putObj {own : Own} (W : World) {l : Nat} (o : Obj) (h : own l W.heap[l]?) : But3 own W (W.putObj l o) := ⟨rfl, rfl, rfl, by simp, fun k _ hk => World.putObj_heap_other (fun e => hk (by rw [e]; exact h))⟩
theorem But3.grown {own : Own} {W W' : World} {row : Option Nat} (hg : W.grownBy W' row) (hr : ∀ k, row = some k → own k W.heap[k]?) : But3 own W W' :=
  ⟨hg.os, hg.tape, hg.output, hg.size, fun k h1 h2 => hg.block k h1 (fun e => h2 (hr k e.symm))⟩
/-- The caller's own blocks and the loop's two blocks. -/
def ownP3 (own : Own) (n : Nat) (k : Nat) (o : Option Obj) : Prop := own k o ∨ k = n ∨ k = n + 1
/-- The word of an iterator: Kn x W is what it knows of a value x at the round's start. -/
def SeqKnown3 {α : Type} (P : Program) (g : Nat) (lb : Array Value) (encs : α → Array Value) (Kn : α → World → Prop) (own : Own) (S Sp : List α → Prop) (w : World) : Prop :=
  ∀ (l : Nat) (J Jx : List α → World → Prop) (W : World), Below w.heap.size w W → w.heap.size + 2 ≤ W.heap.size → Stays J → Stays Jx →
    (∀ pre x W1, J pre W1 → Kn x W1 → Sp (pre ++ [x]) → ∀ m, YieldAt Fence.wide m P l (encs x) W1 fun e W' =>
      (e = .returned (.bool true) ∧ J (pre ++ [x]) W' ∧ But3 (ownP3 own w.heap.size) W1 W') ∨ (e = .returned (.bool false) ∧ Jx (pre ++ [x]) W' ∧ But3 (ownP3 own w.heap.size) W1 W')) →
    J [] W →
    Calls P g (#[.func (.yield l) #[] #[]] ++ lb) W fun e W' => (∃ v, e = .returned v) ∧ ((∃ xs, S xs ∧ J xs W') ∨ (∃ pre, Sp pre ∧ Jx pre W'))
/-- How the body of a round may be left. -/
def knownPost3 {α : Type} (own : Own) (I : List α → World → Prop) (Ix : Code → List α → World → Prop) (xs : List α) (W : World) : Exit → Act → World → Prop
  | .normal, _, W' => KeepsOthers W W' ∧ But3 own W W' ∧ I xs W'
  | .ret, _, W' => KeepsOthers W W' ∧ But3 own W W' ∧ Ix .ret xs W'
  | .exit id, _, W' => KeepsOthers W W' ∧ But3 own W W' ∧ Ix (.exit id) xs W'
  | _, _, _ => False
theorem range_known3 {α : Type} {P : Program} {n : Nat} {g : Operand} {ps : Array Tmp} {assign body : Code} {Q : Exit → Act → World → Prop} {a : Act} {w : World} (h1 : 1 ≤ n)
    {gf : Nat} {lb : Array Value} (hg : a.eval g = .func (.func gf) #[] lb) (eg : ∀ args w, (callFunc gf args).run P w = .ok (.enter gf args) w)
    {encs : α → Array Value} {Kn : α → World → Prop} {own : Own} {S Sp : List α → Prop} (hseq : SeqKnown3 P gf lb encs Kn own S Sp w) (hps : ∀ x, (encs x).size = ps.size)
    (hKn : ∀ x, OwnFrom w.heap.size (fun (_ : Unit) W => Kn x W))
    (I : List α → World → Prop) (Ix : Code → List α → World → Prop) (hI : OwnFrom w.heap.size I) (hIs : Stays I) (hIx : ∀ c, OwnFrom w.heap.size (Ix c)) (hIxs : ∀ c, Stays (Ix c)) (h0 : I [] w) (Ax : α → Act → World → Prop) (hAx : ∀ x a', OwnFrom w.heap.size (fun (_ : Unit) W => Ax x a' W))
    (hassign : ∀ (l : Nat) (pre : List α) (x : α) (W : World) (K : Act → World → Prop), I pre W → Kn x W → w.heap.size + 2 ≤ W.heap.size → (∀ a' W', KeepsOthers W W' → But3 own W W' → I pre W' → Kn x W' → Ax x a' W' → K a' W') →
      assign.wpIn (Fence.wide.inRound l) (n - 1 - 1) P (Exit.then K (fun _ _ _ => False)) { tmps := (ps.zip (encs x)).foldl (fun t (p, v) => t.setIfInBounds p v) a.tmps, defers := [] } W)
    (hbody : ∀ (l : Nat) (pre : List α) (x : α) (a' : Act) (W : World), I pre W → Kn x W → Ax x a' W → Sp (pre ++ [x]) → w.heap.size + 2 ≤ W.heap.size → body.wpIn (Fence.wide.inRound l) (n - 1 - 1) P (knownPost3 own I Ix (pre ++ [x]) W) a' W)
    (hdone : ∀ (D : Nat) (xs : List α) (W : World), w.heap.size ≤ D → S xs → I xs W → W.heap[D]? = some (.deferred (some [])) → Q .normal { a with defers := { target := .collected D, args := #[] } :: a.defers } W)
    (hstop : ∀ (D : Nat) (c : Code) (pre : List α) (W : World), w.heap.size ≤ D → Sp pre → Ix c pre W → W.heap[D]? = some (.deferred (some [])) → c.wpIn Fence.wide n P Q { a with defers := { target := .collected D, args := #[] } :: a.defers } W) :
    (Code.rangeFunc g ps assign body).wpIn Fence.wide n P Q a w := by
  refine wpIn_rangeFunc fun fn hfn => ?_
  let rc : LoopState → Option Code → Loop := fun st pe => { state := st, pending := pe, fn, tmps := a.tmps, params := ps, assign, body, defers := w.heap.size }
  obtain ⟨V, hV⟩ : ∃ V, (w.alloc (.deferred (some []))).alloc (.loop (rc .ready none)) = V := ⟨_, rfl⟩
  have hs : V.heap.size = w.heap.size + 2 := by rw [← hV]; simp
  have hwV : Below w.heap.size w V := by rw [← hV]; exact ((Below.refl _ w).alloc (Nat.le_refl _) _).alloc (by simp) _
  have hD : V.heap[w.heap.size]? = some (.deferred (some [])) := by rw [← hV]; exact (Below.heap_alloc _ _ _ (by simp)).trans (World.alloc_heap_new w _)
  have hL : V.heap[w.heap.size + 1]? = some (.loop (rc .ready none)) := by
    have h := World.alloc_heap_new (w.alloc (.deferred (some []))) (.loop (rc .ready none))
    rw [World.size_alloc, hV] at h
    exact h
  have hlt : ∀ {A : World} {k : Nat} {o : Obj}, A.heap[k]? = some o → k < A.heap.size := fun h => (Array.getElem?_eq_some_iff.1 h).1
  -- the invariant of the rounds
  let J : List α → World → Prop := fun pre W => I pre W ∧ W.heap[w.heap.size + 1]? = some (.loop (rc .ready none)) ∧ W.heap[w.heap.size]? = some (.deferred (some []))
  let Jx : List α → World → Prop := fun pre W => ∃ c, Ix c pre W ∧ W.heap[w.heap.size + 1]? = some (.loop (rc .done (some c))) ∧ W.heap[w.heap.size]? = some (.deferred (some []))
  have hJ : Stays J := fun s A B h hb => ⟨hIs s A B h.1 hb, (hb.block _ (hlt h.2.1)).trans h.2.1, (hb.block _ (hlt h.2.2)).trans h.2.2⟩
  have hJx : Stays Jx := fun s A B ⟨c, h, h2, h3⟩ hb => ⟨c, hIxs c s A B h hb, (hb.block _ (hlt h2)).trans h2, (hb.block _ (hlt h3)).trans h3⟩
  refine ⟨w.heap.size + 1, [{ target := .collected w.heap.size, args := #[] }], V, { target := .fn (.func gf) lb, args := #[.func (.yield (w.heap.size + 1)) #[] #[]] }, V, gf,
    #[.func (.yield (w.heap.size + 1)) #[] #[]] ++ lb, V, ?_, ?_, fun _ _ => trivial, ?_, (fun h => by simp [Fence.wide] at h), ?_⟩
  · rw [← hV]; exact run_enterLoop_outer _ _ _ _ _
  · simp only [resolve, hg]
    simp [go_sem]
  · simp [invoke, go_sem, eg]
  refine callsIn_wide.2 ?_
  refine (hseq (w.heap.size + 1) J Jx V hwV (by omega) hJ hJx ?_ ⟨hIs _ _ _ h0 hwV, hL, hD⟩).mono ?_
  · -- one round
    rintro pre x W ⟨hi, hl, hd⟩ hkn hsp m
    refine yield_any (m := n - 1 - 1) ?_
    have hWs : w.heap.size + 2 ≤ W.heap.size := by have := hlt hl; omega
    refine ⟨fn, _, assign, body, run_yield hl (hps x), roundIn_of_wpIn hfn (hassign _ pre x W _ hi hkn hWs ?_)⟩
    intro a' Wa hka hba hia hkna hax
    have hl0 := hl
    have hb00 : But3 (ownP3 own w.heap.size) W Wa := hba.mono (fun k o e => Or.inl e)
    replace hl := hka.same _ _ hl rfl
    replace hd := hka.same _ _ hd rfl
    replace hi := hia
    replace hkn := hkna
    clear hia hkna hl0
    revert hb00
    generalize W = Wb
    intro hb00
    clear hka hba hWs
    obtain ⟨W, rfl⟩ : ∃ W, W = Wa := ⟨_, rfl⟩
    refine ⟨_, run_beginRound hl rfl, ?_⟩
    obtain ⟨W2, hW2⟩ : ∃ W2, W.putObj (w.heap.size + 1) (.loop (rc .busy none)) = W2 := ⟨_, rfl⟩
    have hl2 : W2.heap[w.heap.size + 1]? = some (.loop (rc .busy none)) := by rw [← hW2]; exact World.putObj_heap_same (hlt hl)
    have hd2 : W2.heap[w.heap.size]? = some (.deferred (some [])) := by rw [← hW2]; exact (World.putObj_heap_other (by omega)).trans hd
    have hk2 : But3 (ownP3 own w.heap.size) W W2 := by rw [← hW2]; exact But3.putObj W _ (Or.inr (Or.inr rfl))
    have hi2 : I pre W2 := by rw [← hW2]; exact hI.putObj _ hi (by omega) hl rfl
    have hkn2 : Kn x W2 := by rw [← hW2]; exact (hKn x).putObj (s := ()) _ hkn (by omega) hl rfl
    have hsz : w.heap.size + 2 ≤ W2.heap.size := by have := hlt hl2; omega
    rw [show W.putObj (w.heap.size + 1) (.loop { rc .ready none with state := .busy }) = W2 from hW2]
    have hax2 : Ax x a' W2 := by rw [← hW2]; exact (hAx x a').putObj (s := ()) _ hax (by omega) hl rfl
    refine wpIn_mono (hbody _ pre x a' W2 hi2 hkn2 hax2 hsp hsz) ?_
    -- the end of a round
    have fin : ∀ (jump : Option Code) (W3 : World), KeepsOthers W2 W3 → ∃ W4, (Instr.endRound (w.heap.size + 1) jump).run P W3 = .ok (.bool jump.isNone) W4 ∧ W4 = W3.putObj (w.heap.size + 1) (.loop (rc (if jump.isNone then .ready else .done) jump)) ∧
        W3.heap[w.heap.size + 1]? = some (.loop (rc .busy none)) ∧ W4.heap[w.heap.size + 1]? = some (.loop (rc (if jump.isNone then .ready else .done) jump)) ∧ W4.heap[w.heap.size]? = some (.deferred (some [])) := fun jump W3 hk => by
      have h3 := hk.same _ _ hl2 rfl
      exact ⟨_, run_endRound jump h3, rfl, h3, World.putObj_heap_same (hlt h3), (World.putObj_heap_other (by omega)).trans (hk.same _ _ hd2 rfl)⟩
    rintro e a3 W3 hp
    cases e with
    | normal =>
      obtain ⟨hk, hkp, hi3⟩ := hp
      obtain ⟨W4, hr, e4, h3, h4, h5⟩ := fin none W3 hk
      refine ⟨_, _, hr, .inl ⟨rfl, ⟨?_, h4, h5⟩, ?_⟩⟩
      · rw [e4]; exact hI.putObj _ hi3 (by omega) h3 rfl
      · rw [e4]; exact ((hb00.trans hk2).trans (hkp.mono (fun k o e => Or.inl e))).trans (But3.putObj W3 _ (Or.inr (Or.inr rfl)))
    | ret =>
      obtain ⟨hk, hkp, hi3⟩ := hp
      obtain ⟨W4, hr, e4, h3, h4, h5⟩ := fin (some .ret) W3 hk
      exact ⟨_, _, hr, .inr ⟨rfl, ⟨.ret, by rw [e4]; exact (hIx _).putObj _ hi3 (by omega) h3 rfl, h4, h5⟩, by rw [e4]; exact ((hb00.trans hk2).trans (hkp.mono (fun k o e => Or.inl e))).trans (But3.putObj W3 _ (Or.inr (Or.inr rfl)))⟩⟩
    | exit id =>
      obtain ⟨hk, hkp, hi3⟩ := hp
      obtain ⟨W4, hr, e4, h3, h4, h5⟩ := fin (some (.exit id)) W3 hk
      exact ⟨_, _, hr, .inr ⟨rfl, ⟨.exit id, by rw [e4]; exact (hIx _).putObj _ hi3 (by omega) h3 rfl, h4, h5⟩, by rw [e4]; exact ((hb00.trans hk2).trans (hkp.mono (fun k o e => Or.inl e))).trans (But3.putObj W3 _ (Or.inr (Or.inr rfl)))⟩⟩
    | goto t => exact hp.elim
    | panic ch => exact hp.elim
    | outgrown => exact hp.elim
  · -- behind the iterator
    rintro e W2 ⟨⟨v, rfl⟩, (⟨xs, hS, hi, hl, hd⟩ | ⟨pre, hSp, c, hi, hl, hd⟩)⟩
    · exact ⟨none, _, run_endLoop hl (by simp [rc]), hdone _ xs _ (Nat.le_refl _) hS (hI.putObj _ hi (by omega) hl rfl) ((World.putObj_heap_other (by omega)).trans hd)⟩
    · exact ⟨some c, _, run_endLoop hl (by simp [rc]), hstop _ c pre _ (Nat.le_refl _) hSp ((hIx c).putObj _ hi (by omega) hl rfl) ((World.putObj_heap_other (by omega)).trans hd)⟩
/-! The walk of a tree, for such a caller. -/
open Go.Shelf Go.Proofs.YtmdbbfoejmakdaaDoorW.PrintWords Go.Proofs.YtmdbbfoejmakdaaDoorW.PrintLast Go.Proofs.YtmdbbfoejmakdaaDoorW.PrintMore Go.Proofs.YtmdbbfoejmakdaaDoor.P
set_option linter.unusedSimpArgs false
attribute [local go_sem] Oper.semAt_some
theorem pathAt.keep3 {b : Nat} {own : Own} {W W' : World} {v : Value} {p : List Int} (h : pathAt b W v p) (ho : ∀ k o, own k o → k < b ∨ ∃ cs f, o = some (.cells cs 34 f)) (hk : But3 own W W') : pathAt b W' v p := by
  obtain ⟨h1, h2⟩ := h
  refine ⟨h1, ?_⟩
  rcases h2 with h2 | ⟨g, cap, cur, hv, hg, hh, r⟩
  · exact Or.inl h2
  · exact Or.inr ⟨g, cap, cur, hv, hg, (hk.block g (Array.getElem?_eq_some_iff.1 hh).1 (fun e => by
      rcases ho g _ e with h | ⟨cs, f, e⟩
      · omega
      · rw [hh] at e
        cases e)).trans hh, r⟩
/-- What is held while the next node's path is made. -/
structure Held3 (own : Own) (wr : World) (cs : Array Value) (w' : World) : Prop where
  cells : ∀ j, w'.cell? ⟨wr.heap.size, j, none⟩ = cs[j]?
  keeps : But3 own wr w'
  lt : wr.heap.size < w'.heap.size
  ob : ∃ cs0, w'.heap[wr.heap.size]? = some (.cells cs0 24 (0, 0))
  ho : ∀ k o, own k o → k < wr.heap.size ∨ ∃ cs f, o = some (.cells cs 34 f)
theorem Held3.start {own : Own} {wr : World} (ho : ∀ k o, own k o → k < wr.heap.size ∨ ∃ cs f, o = some (.cells cs 34 f)) (cs : Array Value) : Held3 own wr cs (wr.alloc (.cells cs 24)).drew :=
  ⟨fun j => box_new wr cs 24 j, But3.of_below ((Below.refl _ _).alloc (Nat.le_refl _) _).drew, by simp, ⟨cs, World.alloc_heap_new wr _⟩, ho⟩
theorem Held3.keep {own : Own} {wr W W' : World} {cs : Array Value} (h : Held3 own wr cs W) (hk : But3 own W W') : Held3 own wr cs W' := by
  obtain ⟨cs0, e0⟩ := h.ob
  have hb := hk.block _ h.lt (fun e => by
    rcases h.ho _ _ e with h1 | ⟨cs, f, e1⟩
    · omega
    · rw [e0] at e1
      cases e1)
  exact ⟨fun j => (World.cell?_of_block hb).trans (h.cells j), h.keeps.trans hk, Nat.lt_of_lt_of_le h.lt hk.size, ⟨cs0, hb.trans e0⟩, h.ho⟩
theorem Held3.below {own : Own} {wr W W' : World} {cs : Array Value} (h : Held3 own wr cs W) (hb : Below W.heap.size W W') : Held3 own wr cs W' := h.keep (But3.of_below hb)
theorem Held3.alloc {own : Own} {wr W : World} {cs : Array Value} (h : Held3 own wr cs W) (o : Obj) : Held3 own wr cs (W.alloc o) := h.below ((Below.refl _ _).alloc (Nat.le_refl _) _)
theorem Held3.grown {own : Own} {wr W W' : World} {cs : Array Value} {row : Option Nat} (h : Held3 own wr cs W) (hg : W.grownBy W' row) (hr : ∀ k, row = some k → wr.heap.size < k) : Held3 own wr cs W' := by
  have hl := h.lt
  obtain ⟨cs0, e0⟩ := h.ob
  have hb : Below (wr.heap.size + 1) W W' := (Below.refl _ _).grown hg (by omega) (fun k e => by have := hr k e; omega)
  exact ⟨fun j => (hb.cell (p := ⟨wr.heap.size, j, none⟩) (by show wr.heap.size < _; omega)).trans (h.cells j), ⟨hg.os.trans h.keeps.os, hg.tape.trans h.keeps.tape, hg.output.trans h.keeps.output, Nat.le_trans h.keeps.size hg.size, fun k hk1 hk2 => (hb.block k (by omega)).trans (h.keeps.block k hk1 hk2)⟩, by have := hb.size; omega, ⟨cs0, (hb.block _ (by omega)).trans e0⟩, h.ho⟩
theorem Held3.allocD {own : Own} {wr W : World} {cs : Array Value} (h : Held3 own wr cs W.drew) (o : Obj) : Held3 own wr cs (W.alloc o).drew := h.below ⟨rfl, rfl, rfl, by simp, fun k hk => Below.heap_alloc W o k hk⟩
theorem heldAnd3 {own : Own} {wr W : World} {cs : Array Value} (h : Held3 own wr cs W) : (∀ j, W.cell? ⟨wr.heap.size, j, none⟩ = cs[j]?) ∧ Held3 own wr cs W := ⟨h.cells, h⟩
def WalkPost3 (own : Own) (T : List (List Int × Nd)) (J Jx : List Vis → World → Prop) (p : List Int) (x : Nd) (pre : List Vis) (W : World) (e : Ending) (W' : World) : Prop :=
  ∃ b, e = .returned (.bool b) ∧ But3 own W W' ∧ (b = true → ∃ vs, vs.map Vis.key = wkN p x ∧ J (pre ++ vs) W') ∧ (b = false → ∃ vs, (pre ++ vs).map Vis.key <+: T ∧ Jx (pre ++ vs) W')
set_option maxHeartbeats 4000000 in
set_option maxRecDepth 100000 in
theorem walk_in3 (l n1 : Nat) (G : World → Prop) (own : Own) (T : List (List Int × Nd)) (J Jx : List Vis → World → Prop) (hJ : Stays J) (hJx : Stays Jx) (hGB : ∀ W W', G W → Below W.heap.size W W' → G W') (hGO : ∀ W W', G W → But3 own W W' → G W') (hown : ∀ k o, own k o → k < n1 ∨ ∃ cs f, o = some (.cells cs 34 f))
    (hY : ∀ pre v W1, J pre W1 → Vis.Kn G n1 v W1 → (pre ++ [v]).map Vis.key <+: T → ∀ m, YieldAt Fence.wide m Tryd.prog l v.enc W1 fun e W' =>
      (e = .returned (.bool true) ∧ J (pre ++ [v]) W' ∧ But3 own W1 W') ∨ (e = .returned (.bool false) ∧ Jx (pre ++ [v]) W' ∧ But3 own W1 W')) :
    ∀ (n : Nat) (x : Nd) (A : Option Addr) (c : Nat) (p : List Int) (pv : Value) (pre : List Vis) (W : World) (m : Nat), SizeOf.sizeOf x ≤ n → TreeAt G x A c → pathAt n1 W pv p → G W → n1 ≤ W.heap.size → J pre W →
      (pre.map Vis.key ++ wkN p x) <+: T → p.length + dpN x ≤ 1000000 →
      CallsIn Fence.wide m Tryd.prog 90 #[nodeV x A c, pv, .func (.yield l) #[] #[]] W (WalkPost3 own T J Jx p x pre W) := by
  have hcl : ∀ (b m : Nat) (v : Value) (p : List Int) (w : World), pathAt b w v p → p.length ≤ 1000000 → CallsIn Fence.wide m Tryd.prog 122 #[v] w fun e w' => ∃ v', e = .returned v' ∧ pathAt w.heap.size w' v' p ∧ Below w.heap.size w w' := fun b m v p w h hl => callsIn_wide.2 (cloneI b v p w h hl)
  have hdd : ∀ k : Nat, (Fence.wide.depth.isSome = true → 1 ≤ k) := fun k h => by simp [Fence.wide] at h
  have hmx : Tryd.prog.follows .mixedOrders = true := by kernel_rfl
  intro n
  induction n with
  | zero => intro x A c p pv pre W m hn; exact absurd hn (by cases x; simp)
  | succ n ih =>
    rintro ⟨a0, a1, a2, ks⟩ A c p pv pre W m hn hAt hpv hB hW hJ0 hT hdp
    have hlen : ks.length ≤ 9223372036854775807 := by cases hAt; assumption
    have HIH := Aside0.mk ih
    have HJ := Aside0.mk hJ
    have HJx := Aside0.mk hJx
    have HY := Aside0.mk hY
    have HCL := Aside0.mk hcl
    have HPV := Aside0.mk hpv
    have HB := Aside0.mk hB
    have HT := Aside0.mk hT
    have HDP := Aside0.mk hdp
    have HAT := Aside0.mk hAt
    have HJ0 := Aside0.mk hJ0
    have HN := Aside0.mk hn
    have HW := Aside0.mk hW
    have HGB := Aside0.mk hGB
    have HGO := Aside0.mk hGO
    have HOW := Aside0.mk hown
    clear ih hJ hJx hY hcl hpv hB hT hdp hAt hJ0 hn hW hGB hGO hown
    have HC0 : Aside0 (∀ j, (W.alloc (.cells #[.int .u8 a0, .int .i64 a1, .string a2, .slice A ks.length c] 24)).drew.cell? ⟨W.heap.size, j, none⟩ = #[Value.int .u8 a0, .int .i64 a1, .string a2, .slice A ks.length c][j]?) := ⟨fun j => box_new W _ _ j⟩
    have HB0 : Aside0 (Below W.heap.size W (W.alloc (.cells #[.int .u8 a0, .int .i64 a1, .string a2, .slice A ks.length c] 24)).drew) := ⟨((Below.refl _ W).alloc (Nat.le_refl _) _).drew⟩
    refine callsIn_of_wp Tryd.func90 rfl trivial ?_ rfl
    simp only [Tryd.ntmps90, List.size_toArray, List.length_cons, List.length_nil, Nat.reduceAdd, Nat.reduceSub, Array.replicate_succ, Array.replicate_zero, List.push_toArray, List.append_toArray, List.nil_append, List.cons_append]
    gi_wp2
    have HYB : Aside0 (∀ v1 W1 m, pathAt n1 W1 v1 p → J pre W1 → YieldAt Fence.wide m Tryd.prog l #[v1, .agg #[.int .u8 a0, .int .i64 a1, .string a2, .slice A ks.length c]] W1 fun e W' => ∃ b, e = .returned (.bool b) ∧
        But3 own W1 W' ∧ (b = true → J (pre ++ [(⟨p, v1, ⟨a0, a1, a2, ks⟩, A, c⟩ : Vis)]) W') ∧ (b = false → Jx (pre ++ [(⟨p, v1, ⟨a0, a1, a2, ks⟩, A, c⟩ : Vis)]) W')) := ⟨fun v1 W1 m h1 h2 =>
      YieldAt.mono (HY.out pre ⟨p, v1, ⟨a0, a1, a2, ks⟩, A, c⟩ W1 h2 ⟨h1, HAT.out⟩ (by
        obtain ⟨r, hr⟩ := HT.out
        rw [wkN] at hr
        exact ⟨wkL p 0 ks ++ r, by simpa [Vis.key] using hr⟩) m) fun e W' h => by
          rcases h with ⟨h1, h2, h3⟩ | ⟨h1, h2, h3⟩
          · exact ⟨true, h1, h3, fun _ => h2, fun h => by cases h⟩
          · exact ⟨false, h1, h3, fun h => (by cases h), fun _ => h2⟩⟩
    obtain ⟨R1, HR1⟩ : ∃ R : Act → World → Prop, Aside0 (R = fun a W' => ∃ b v1, a = { tmps := #[nodeV ⟨a0, a1, a2, ks⟩ A c, pv, .func (.yield l) #[] #[], .pointer (some ⟨W.heap.size, 0, none⟩), undef, undef, .bool false, undef, undef, .func (.yield l) #[] #[], pv, v1, .agg #[.int .u8 a0, .int .i64 a1, .string a2, .slice A ks.length c], .bool b, .bool (!b), undef, undef, undef, undef, undef, undef, undef, undef, undef, undef, undef, undef, undef, undef, undef, undef, undef, undef], defers := [] } ∧ But3 own W W' ∧ (∀ j, W'.cell? ⟨W.heap.size, j, none⟩ = #[Value.int .u8 a0, .int .i64 a1, .string a2, .slice A ks.length c][j]?) ∧
        (b = true → J (pre ++ [(⟨p, v1, ⟨a0, a1, a2, ks⟩, A, c⟩ : Vis)]) W') ∧ (b = false → Jx (pre ++ [(⟨p, v1, ⟨a0, a1, a2, ks⟩, A, c⟩ : Vis)]) W')) := ⟨_, ⟨rfl⟩⟩
    refine wpIn_mono (Q := cutQ R1) ?_ ?_
    · gi_region_with_o (first
        | ((try refine ⟨trivial, ?_⟩); (try refine ⟨hdd _, ?_⟩); gi_at_call 122; refine (HCL.out n1 _ pv p _ (HPV.out.below HB0.out) (by have := HDP.out; omega)).mono ?_; rintro e W1 ⟨v1, rfl, hv1, hb1⟩; have g1 := box_keep hb1 (by simp) HC0.out; obtain ⟨fn, tmps, assign, body, hy, hR⟩ := HYB.out v1 W1 (m - 1) (hv1.mono (by have := HW.out; simp; omega)) (HJ.out _ _ _ HJ0.out (HB0.out.trans (hb1.mono HB0.out.size))); have HB1 := Aside0.mk hb1; clear hv1 hb1)
        | ((try refine ⟨trivial, ?_⟩); (try refine ⟨hdd _, ?_⟩); refine hR.mono ?_; clear hR hy; rintro e W2 ⟨b, rfl, hb2⟩; have H2 := Aside0.mk hb2; clear hb2))
      all_goals (
        show R1 _ _
        rw [HR1.out]
        have hk1 : But3 own W W1 := But3.of_below (HB0.out.trans (HB1.out.mono HB0.out.size))
        refine ⟨b, v1, rfl, hk1.trans H2.out.1, fun j => ?_, H2.out.2.1, H2.out.2.2⟩
        rw [← g1 j]
        exact World.cell?_of_block (H2.out.1.block _ (by have := HB1.out.size; simp at this; show W.heap.size < _; omega) (fun e => by
          have e0 : W1.heap[W.heap.size]? = some (.cells #[.int .u8 a0, .int .i64 a1, .string a2, .slice A ks.length c] 24) := (HB1.out.block _ (by simp)).trans (World.alloc_heap_new W _)
          rcases HOW.out _ _ e with h1 | ⟨cs, f, h1⟩
          · have h2 := HW.out
            dsimp only at h1
            omega
          · rw [show W1.heap[(⟨W.heap.size, j, none⟩ : Addr).block]? = _ from e0] at h1
            cases h1)))
    intro e a W2 hcut
    cases e <;> first | exact False.elim hcut | skip
    replace hcut : R1 a W2 := hcut
    rw [HR1.out] at hcut
    clear HR1
    obtain ⟨b, v1, rfl, hk2, hg2, ht, hf⟩ := hcut
    have HTT := Aside0.mk ht
    have HFF := Aside0.mk hf
    have HK2 := Aside0.mk hk2
    clear ht hf hk2 HYB HB0 HC0
    cases b
    · have HF3 := Aside0.mk (HFF.out rfl)
      clear HFF HTT
      gi_wp2
      go_ret
      exact ⟨false, rfl, HK2.out, (fun h => by cases h), fun _ => ⟨[(⟨p, v1, ⟨a0, a1, a2, ks⟩, A, c⟩ : Vis)], by
        obtain ⟨r, hr⟩ := HT.out
        rw [wkN] at hr
        exact ⟨wkL p 0 ks ++ r, by simpa [Vis.key] using hr⟩, HF3.out⟩⟩
    · have HJ2 := Aside0.mk (HTT.out rfl)
      clear HTT HFF
      gi_wp2
      gi_loopw [18] (fun v wr => ∃ (k : Nat) (vs : List Vis), k ≤ ks.length ∧ v = .int .i64 k ∧ Aside0 (J (pre ++ [(⟨p, v1, ⟨a0, a1, a2, ks⟩, A, c⟩ : Vis)] ++ vs) wr ∧ vs.map Vis.key = wkL p 0 (ks.take k) ∧ But3 own W wr)) (fun v _ => ks.length - (intOf v).toNat)
      case atStart => exact ⟨0, [], Nat.zero_le _, rfl, ⟨by rw [List.append_nil]; exact HJ2.out, by simp [wkL], HK2.out⟩⟩
      case round =>
        obtain ⟨k, vs, hk, rfl, HR⟩ := hrel
        by_cases hlt : k < ks.length
        · have HBW : Aside0 (G wr) := ⟨HGO.out _ _ HB.out HR.out.2.2⟩
          have HPW : Aside0 (pathAt n1 wr pv p) := ⟨HPV.out.keep3 HOW.out HR.out.2.2⟩
          have HWR : Aside0 (n1 ≤ wr.heap.size) := ⟨Nat.le_trans HW.out HR.out.2.2.size⟩
          obtain ⟨x, hx⟩ : ∃ x, ks[k]? = some x := ⟨_, List.getElem?_eq_getElem hlt⟩
          obtain ⟨ad, A3, c3, rfl, hcell, HA3⟩ := tree_kid HAT.out hx
          have g0 : wr.cell? (ad.add (k * 4)) = some (.int .u8 x.f0) := hcell wr HBW.out 0 (by omega)
          have g1 : wr.cell? ⟨(ad.add (k * 4)).block, (ad.add (k * 4)).off + 1, none⟩ = some (.int .i64 x.f1) := by rw [← add_field _ _ 1 (by omega)]; exact hcell wr HBW.out 1 (by omega)
          have g2 : wr.cell? ⟨(ad.add (k * 4)).block, (ad.add (k * 4)).off + 2, none⟩ = some (.string x.f2) := by rw [← add_field _ _ 2 (by omega)]; exact hcell wr HBW.out 2 (by omega)
          have g3 : wr.cell? ⟨(ad.add (k * 4)).block, (ad.add (k * 4)).off + 3, none⟩ = some (.slice A3 x.f3.length c3) := by rw [← add_field _ _ 3 (by omega)]; exact hcell wr HBW.out 3 (by omega)
          clear hcell
          have hm : x ∈ ks := List.mem_of_getElem? hx
          have HX := Aside0.mk hx
          have HM := Aside0.mk hm
          have HA3 := Aside0.mk HA3
          clear hx hm
          gi_wp2
          refine wpIn_wide.2 ?_
          have hH : Held3 own wr #[Value.int .u8 x.f0, .int .i64 x.f1, .string x.f2, .slice A3 x.f3.length c3] (wr.alloc (.cells #[.int .u8 x.f0, .int .i64 x.f1, .string x.f2, .slice A3 x.f3.length c3] 24)).drew := Held3.start (fun q o e => by rcases HOW.out q o e with h | h <;> first | exact Or.inl (by have := HWR.out; omega) | exact Or.inr h) _
          have hcells := hH.cells
          have HH := Aside0.mk hH
          have hS : (∀ j, ((wr.alloc (.cells #[.int .u8 x.f0, .int .i64 x.f1, .string x.f2, .slice A3 x.f3.length c3] 24)).drew).cell? ⟨wr.heap.size, j, none⟩ = #[Value.int .u8 x.f0, .int .i64 x.f1, .string x.f2, .slice A3 x.f3.length c3][j]?) ∧ Held3 own wr #[Value.int .u8 x.f0, .int .i64 x.f1, .string x.f2, .slice A3 x.f3.length c3] (wr.alloc (.cells #[.int .u8 x.f0, .int .i64 x.f1, .string x.f2, .slice A3 x.f3.length c3] 24)).drew := ⟨hcells, hH⟩
          clear hH hcells
          obtain ⟨R6, HR6⟩ : ∃ R : Act → World → Prop, Aside0 (R = fun a W' => ∃ b t25 t27 t28, a = { tmps := #[nodeV ⟨a0, a1, a2, ks⟩ (some ad) c, pv, .func (.yield l) #[] #[], .pointer (some ⟨W.heap.size, 0, none⟩), undef, undef, u6, .int .i64 k, .pointer (some ⟨wr.heap.size, 0, none⟩), .func (.yield l) #[] #[], pv, v1, .agg #[.int .u8 a0, .int .i64 a1, .string a2, .slice (some ad) ks.length c], .bool true, .bool false, .pointer (some ⟨W.heap.size, 3, none⟩), .slice (some ad) ks.length c, .int .i64 ks.length, .int .i64 k, .bool true, .int .i64 k, .pointer (some (ad.add (k * 4))), .agg #[.int .u8 x.f0, .int .i64 x.f1, .string x.f2, .slice A3 x.f3.length c3], .agg #[.int .u8 x.f0, .int .i64 x.f1, .string x.f2, .slice A3 x.f3.length c3], pv, t25, .int .i64 k, t27, t28, .func (.yield l) #[] #[], .bool b, .bool (!b), u32], defers := [] } ∧ But3 own wr W' ∧
            (b = true → ∃ us : List Vis, us.map Vis.key = wkN (p ++ [(k : Int)]) x ∧ J (pre ++ [(⟨p, v1, ⟨a0, a1, a2, ks⟩, some ad, c⟩ : Vis)] ++ vs ++ us) W') ∧ (b = false → ∃ us : List Vis, (pre ++ [(⟨p, v1, ⟨a0, a1, a2, ks⟩, some ad, c⟩ : Vis)] ++ vs ++ us).map Vis.key <+: T ∧ Jx (pre ++ [(⟨p, v1, ⟨a0, a1, a2, ks⟩, some ad, c⟩ : Vis)] ++ vs ++ us) W')) := ⟨_, ⟨rfl⟩⟩
          refine Code.wp_mono (Q := cutQ R6) ?_ ?_
          · intro e a W3 hcut
            cases e <;> first | exact False.elim hcut | skip
            replace hcut : R6 a W3 := hcut
            rw [HR6.out] at hcut
            clear HR6
            obtain ⟨b, t25, t27, t28, rfl, hk3, ht, hf⟩ := hcut
            have HTT := Aside0.mk ht
            have HFF := Aside0.mk hf
            have HK3 := Aside0.mk hk3
            clear ht hf hk3 hS HH
            cases b
            · have HF3 := Aside0.mk (HFF.out rfl)
              clear HFF HTT
              gi_wp2
              go_ret
              refine ⟨false, rfl, HR.out.2.2.trans HK3.out, (fun h => by cases h), fun _ => ?_⟩
              obtain ⟨us, h1, h2⟩ := HF3.out
              exact ⟨⟨p, v1, ⟨a0, a1, a2, ks⟩, some ad, c⟩ :: vs ++ us, by simpa using h1, by simpa using h2⟩
            · have HT3 := Aside0.mk (HTT.out rfl)
              clear HFF HTT
              gi_wp2
              obtain ⟨us, h1, h2⟩ := HT3.out
              refine ⟨?_, ?measure⟩
              (repeat apply Exists.intro)
              refine ⟨?rel, rfl⟩
              case rel => exact ⟨k + 1, vs ++ us, by omega, by go_num, ⟨by simpa using h2, by rw [List.map_append, HR.out.2.1, h1, wkL_take p ks 0 k x HX.out, Nat.zero_add], HR.out.2.2.trans HK3.out⟩⟩
              case measure => simp [intOf]; omega
          have HSN : Aside0 ((pre ++ [(⟨p, v1, ⟨a0, a1, a2, ks⟩, some ad, c⟩ : Vis)] ++ vs).map Vis.key ++ wkN (p ++ [(k : Int)]) x <+: T) := ⟨by
            obtain ⟨r, hr⟩ := HT.out
            refine ⟨wkL p (0 + k + 1) (ks.drop (k + 1)) ++ r, ?_⟩
            rw [← hr, wkN, wkL_split p ks 0 k x HX.out, Nat.zero_add, List.map_append, List.map_append, HR.out.2.1]
            simp [Vis.key]⟩
          have HDX : Aside0 (p.length + 1 + dpN x ≤ 1000000) := ⟨by
            have h1 := HDP.out
            rw [dpN] at h1
            have h2 := dpL_mem HM.out
            omega⟩
          have HSX : Aside0 (SizeOf.sizeOf x ≤ n) := ⟨by have h2 := kid_lt (x := ⟨a0, a1, a2, ks⟩) (y := x) HM.out; have := HN.out; omega⟩
          have hb6 : Below wr.heap.size wr (wr.alloc (.cells #[.int .u8 x.f0, .int .i64 x.f1, .string x.f2, .slice A3 x.f3.length c3] 24)).drew := ((Below.refl _ wr).alloc (Nat.le_refl _) _).drew
          have HB6 := Aside0.mk hb6
          clear hb6
          obtain ⟨i0, hi, hz0, hz1, hz2⟩ := info_parts info3
          go_region_held3 (fun w' => (∀ j, w'.cell? ⟨wr.heap.size, j, none⟩ = #[Value.int .u8 x.f0, .int .i64 x.f1, .string x.f2, .slice A3 x.f3.length c3][j]?) ∧ Held3 own wr #[Value.int .u8 x.f0, .int .i64 x.f1, .string x.f2, .slice A3 x.f3.length c3] w')
            (first | assumption | exact heldAnd3 (by assumption) | exact heldAnd3 ((by assumption : _ ∧ Held3 own wr #[Value.int .u8 x.f0, .int .i64 x.f1, .string x.f2, .slice A3 x.f3.length c3] _).2.alloc _) | exact heldAnd3 (Held3.allocD (by assumption : _ ∧ Held3 own wr #[Value.int .u8 x.f0, .int .i64 x.f1, .string x.f2, .slice A3 x.f3.length c3] _).2 _))
            (first
              | (go_at_call 122; refine (cloneI n1 pv p _ (HPW.out.keep3 HOW.out (by assumption : _ ∧ Held3 own wr #[Value.int .u8 x.f0, .int .i64 x.f1, .string x.f2, .slice A3 x.f3.length c3] _).2.keeps) (by have := HDP.out; omega)).mono ?_; rintro e W1 ⟨v5, rfl, hv0, hb1⟩; have hH5 := (by assumption : _ ∧ Held3 own wr #[Value.int .u8 x.f0, .int .i64 x.f1, .string x.f2, .slice A3 x.f3.length c3] _).2.below hb1; have hv1 : pathAt (wr.heap.size + 1) W1 v5 p := hv0.mono (by assumption : _ ∧ Held3 own wr #[Value.int .u8 x.f0, .int .i64 x.f1, .string x.f2, .slice A3 x.f3.length c3] _).2.lt; clear hv0; have hq1 : Below wr.heap.size wr W1 := (by first | exact HB6.out.trans (hb1.mono (by simp)) | exact (HB6.out.alloc (by simp) _).trans (hb1.mono (by simp; omega))))
              | (go_at_call 90; refine (callsIn_wide.1 (HIH.out x A3 c3 (p ++ [(k : Int)]) _ (pre ++ [(⟨p, v1, ⟨a0, a1, a2, ks⟩, some ad, c⟩ : Vis)] ++ vs) _ m HSX.out HA3.out (path_snoc hown (by have := HWR.out; omega)) (HGO.out _ _ HBW.out (by assumption : _ ∧ Held3 own wr #[Value.int .u8 x.f0, .int .i64 x.f1, .string x.f2, .slice A3 x.f3.length c3] _).2.keeps) (by have := HWR.out; have := hq2.size; omega) (HJ.out _ _ _ HR.out.1 hq2) HSN.out (by have := HDX.out; simp; omega))).mono ?_; rintro e w3 ⟨b, rfl, hk3, ht3, hf3⟩; have hH7 := (by assumption : _ ∧ Held3 own wr #[Value.int .u8 x.f0, .int .i64 x.f1, .string x.f2, .slice A3 x.f3.length c3] _).2.keep hk3)
              | (rw [if_pos (by rfl)]; refine wp_append_own _ (.tmp 25) (.tmp 27) 34 rfl (wr.heap.size + 1) 3 i0 (.int .i64 0) 1 8 Tryd.underlying34 hi hz0 hz1 hz2 rfl (by decide) _ p.length (p.map (Value.int .i64)) rfl (by first | exact hv1 | exact World.ownsRow.alloc hv1 _) ⟨_, 0, none⟩ 1 1 [.int .i64 k] rfl rfl (one_cell (by first | exact box_new _ _ _ 0 | exact (hb1.cell (p := ⟨_, 0, none⟩) (by simp)).trans (box_at _ _ _ _ 0 (by simp)))) (by intro u hu; simp at hu; subst hu; rfl) (by have := HDP.out; unfold maxLen; omega) (by have := HDP.out; omega) (by assumption : _ ∧ Held3 own wr #[Value.int .u8 x.f0, .int .i64 x.f1, .string x.f2, .slice A3 x.f3.length c3] _).2.lt ?_; intro v2 w2 hown hgrow hnil; have hH6 := (by assumption : _ ∧ Held3 own wr #[Value.int .u8 x.f0, .int .i64 x.f1, .string x.f2, .slice A3 x.f3.length c3] _).2.grown hgrow (fun q e => by have := (World.ownsRow.lt hv1 q e).1; omega); have hq2 : Below wr.heap.size wr w2 := (by first | exact hq1.grown hgrow hq1.size (fun q e => by have := (World.ownsRow.lt hv1 q e).1; omega) | exact (hq1.alloc hq1.size _).grown hgrow (by have := hq1.size; simp; omega) (fun q e => by have := (World.ownsRow.lt hv1 q e).1; omega))))
          all_goals (
            have HF7 := hH7.keeps
            clear hH5 hH6 hH7
            show R6 _ _
            rw [HR6.out]
            exact ⟨b, _, _, _, rfl, HF7, ht3, hf3⟩)
        · have ek : k = ks.length := by omega
          subst ek
          gi_wp2
          go_ret
          refine ⟨true, rfl, HR.out.2.2, fun _ => ⟨⟨p, v1, ⟨a0, a1, a2, ks⟩, A, c⟩ :: vs, ?_, ?_⟩, (fun h => by cases h)⟩
          · rw [List.map_cons, HR.out.2.1, List.take_length, wkN]; rfl
          · have := HR.out.1; rwa [List.append_assoc] at this
set_option maxHeartbeats 2000000 in
set_option maxRecDepth 100000 in
theorem Walk_known3 (G : World → Prop) (own : Own) (w : World) (bx : Nat) (x : Nd) (A : Option Addr) (c : Nat) (hG : G w) (hGB : ∀ W W', G W → Below W.heap.size W W' → G W') (hGO : ∀ W W', G W → But3 (ownP3 own w.heap.size) W W' → G W') (hown : ∀ k o, own k o → k < w.heap.size ∨ ∃ cs f, o = some (.cells cs 34 f))
    (hA : TreeAt G x A c) (hbx : ∀ j, w.cell? ⟨bx, j, none⟩ = #[Value.int .u8 x.f0, .int .i64 x.f1, .string x.f2, .slice A x.f3.length c][j]?) (hlt : bx < w.heap.size) (hd : dpN x ≤ 1000000) :
    SeqKnown3 Tryd.prog 89 #[.pointer (some ⟨bx, 0, none⟩)] Vis.enc (Vis.Kn G w.heap.size) own (fun xs => xs.map Vis.key = wkN [] x) (fun pre => pre.map Vis.key <+: wkN [] x) w := by
  intro l J Jx W hW hW2 hJ hJx hY hj0
  have hw := walk_in3 l W.heap.size G (ownP3 own w.heap.size) (wkN [] x) J Jx hJ hJx hGB hGO (fun k o e => by
    rcases e with e | e | e
    · rcases hown k o e with h | h
      · exact Or.inl (by omega)
      · exact Or.inr h
    · exact Or.inl (by omega)
    · exact Or.inl (by omega)) (fun pre v W1 h1 h2 h3 m => hY pre v W1 h1 ⟨h2.1.mono hW.size, h2.2⟩ h3 m) (SizeOf.sizeOf x) x A c [] (.slice none 0 0) [] W 0 (Nat.le_refl _) hA (World.ownsRow_nil _ _ _ _) (hGB _ _ hG hW) (Nat.le_refl _) hj0 (by simp) (by simpa using hd)
  have hc : ∀ j, W.cell? ⟨bx, j, none⟩ = #[Value.int .u8 x.f0, .int .i64 x.f1, .string x.f2, .slice A x.f3.length c][j]? := fun j => (hW.cell (p := ⟨bx, j, none⟩) hlt).trans (hbx j)
  have HW := Aside0.mk (callsIn_wide.1 hw)
  clear hw hY hbx
  go_enter Tryd.func89, Tryd.ntmps89
  go_wp2_with fail
  refine HW.out.mono ?_
  rintro e w' ⟨b, rfl, hk, ht, hf⟩
  have HT := Aside0.mk ht
  have HF := Aside0.mk hf
  clear ht hf
  go_wp2
  go_end0
  refine ⟨⟨_, rfl⟩, ?_⟩
  cases b
  · obtain ⟨vs, h1, h2⟩ := HF.out rfl
    exact Or.inr ⟨vs, h1, h2⟩
  · obtain ⟨vs, h1, h2⟩ := HT.out rfl
    exact Or.inl ⟨vs, h1, h2⟩
end Go.Proofs.YtmdbbfoejmakdaaDoor.Ha

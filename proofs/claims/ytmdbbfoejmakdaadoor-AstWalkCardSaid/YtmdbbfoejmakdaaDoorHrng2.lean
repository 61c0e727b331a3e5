/-
  The law of a range over a function whose rounds are told what the iterator knows, where the assignment to the loop's variables may lay blocks. By this session, out of its own program (wip/gen).
-/
import Derived.Test.YtmdbbfoejmakdaaDoorHrng
namespace Go.Proofs.YtmdbbfoejmakdaaDoor.Ha
open Go.RowKit
set_option linter.unusedVariables false
theorem range_known2 {α : Type} {P : Program} {n : Nat} {g : Operand} {ps : Array Tmp} {assign body : Code} {Q : Exit → Act → World → Prop} {a : Act} {w : World} (h1 : 1 ≤ n)
    {gf : Nat} {lb : Array Value} (hg : a.eval g = .func (.func gf) #[] lb) (eg : ∀ args w, (callFunc gf args).run P w = .ok (.enter gf args) w)
    {encs : α → Array Value} {Kn : α → World → Prop} {own : Nat → Prop} {S Sp : List α → Prop} (hseq : SeqKnown P gf lb encs Kn own S Sp w) (hps : ∀ x, (encs x).size = ps.size)
    (hKn : ∀ x, OwnFrom w.heap.size (fun (_ : Unit) W => Kn x W))
    (I : List α → World → Prop) (Ix : Code → List α → World → Prop) (hI : OwnFrom w.heap.size I) (hIs : Stays I) (hIx : ∀ c, OwnFrom w.heap.size (Ix c)) (hIxs : ∀ c, Stays (Ix c)) (h0 : I [] w) (Ax : α → Act → World → Prop) (hAx : ∀ x a', OwnFrom w.heap.size (fun (_ : Unit) W => Ax x a' W))
    (hassign : ∀ (l : Nat) (pre : List α) (x : α) (W : World) (K : Act → World → Prop), I pre W → Kn x W → w.heap.size + 2 ≤ W.heap.size → (∀ a' W', KeepsOthers W W' → But own W W' → I pre W' → Kn x W' → Ax x a' W' → K a' W') →
      assign.wpIn (Fence.wide.inRound l) (n - 1 - 1) P (Exit.then K (fun _ _ _ => False)) { tmps := (ps.zip (encs x)).foldl (fun t (p, v) => t.setIfInBounds p v) a.tmps, defers := [] } W)
    (hbody : ∀ (l : Nat) (pre : List α) (x : α) (a' : Act) (W : World), I pre W → Kn x W → Ax x a' W → Sp (pre ++ [x]) → w.heap.size + 2 ≤ W.heap.size → body.wpIn (Fence.wide.inRound l) (n - 1 - 1) P (knownPost own I Ix (pre ++ [x]) W) a' W)
    (hdone : ∀ (D : Nat) (xs : List α) (W : World), w.heap.size ≤ D → S xs → I xs W → W.heap[D]? = some (.deferred (some [])) → Q .normal { a with defers := { target := .collected D, args := #[] } :: a.defers } W)
    (hstop : ∀ (D : Nat) (c : Code) (pre : List α) (W : World), w.heap.size ≤ D → Sp pre → Ix c pre W → W.heap[D]? = some (.deferred (some [])) → c.wpIn Fence.wide n P Q { a with defers := { target := .collected D, args := #[] } :: a.defers } W) :
    (Code.rangeFunc g ps assign body).wpIn Fence.wide n P Q a w := by
  refine wpIn_rangeFunc fun fn hfn => ?_
  let rc : LoopState → Option Code → Loop := fun st pe => { state := st, pending := pe, fn, tmps := a.tmps, params := ps, assign, body, defers := w.heap.size }
  obtain ⟨V, hV⟩ : ∃ V, (w.alloc (.deferred (some []))).alloc (.loop (rc .ready none)) = V := ⟨_, rfl⟩
  have hs : V.heap.size = w.heap.size + 2 := by rw [← hV]; simp
  have hwV : Below w.heap.size w V := by rw [← hV]; exact ((Below.refl _ w).alloc (Nat.le_refl _) _).alloc (by simp) _
  have hD : V.heap[w.heap.size]? = some (.deferred (some [])) := by rw [← hV]; exact (Below.heap_alloc _ _ _ (by simp)).trans (World.alloc_heap_new w _)
  have hL : V.heap[w.heap.size + 1]? = some (.loop (rc .ready none)) := by
    have h := World.alloc_heap_new (w.alloc (.deferred (some []))) (.loop (rc .ready none))
    rw [World.size_alloc, hV] at h
    exact h
  have hlt : ∀ {A : World} {k : Nat} {o : Obj}, A.heap[k]? = some o → k < A.heap.size := fun h => (Array.getElem?_eq_some_iff.1 h).1
  -- the invariant of the rounds
  let J : List α → World → Prop := fun pre W => I pre W ∧ W.heap[w.heap.size + 1]? = some (.loop (rc .ready none)) ∧ W.heap[w.heap.size]? = some (.deferred (some []))
  let Jx : List α → World → Prop := fun pre W => ∃ c, Ix c pre W ∧ W.heap[w.heap.size + 1]? = some (.loop (rc .done (some c))) ∧ W.heap[w.heap.size]? = some (.deferred (some []))
  have hJ : Stays J := fun s A B h hb => ⟨hIs s A B h.1 hb, (hb.block _ (hlt h.2.1)).trans h.2.1, (hb.block _ (hlt h.2.2)).trans h.2.2⟩
  have hJx : Stays Jx := fun s A B ⟨c, h, h2, h3⟩ hb => ⟨c, hIxs c s A B h hb, (hb.block _ (hlt h2)).trans h2, (hb.block _ (hlt h3)).trans h3⟩
  refine ⟨w.heap.size + 1, [{ target := .collected w.heap.size, args := #[] }], V, { target := .fn (.func gf) lb, args := #[.func (.yield (w.heap.size + 1)) #[] #[]] }, V, gf,
    #[.func (.yield (w.heap.size + 1)) #[] #[]] ++ lb, V, ?_, ?_, fun _ _ => trivial, ?_, (fun h => by simp [Fence.wide] at h), ?_⟩
  · rw [← hV]; exact run_enterLoop_outer _ _ _ _ _
  · simp only [resolve, hg]
    simp [go_sem]
  · simp [invoke, go_sem, eg]
  refine callsIn_wide.2 ?_
  refine (hseq (w.heap.size + 1) J Jx V hwV (by omega) hJ hJx ?_ ⟨hIs _ _ _ h0 hwV, hL, hD⟩).mono ?_
  · -- one round
    rintro pre x W ⟨hi, hl, hd⟩ hkn hsp m
    refine yield_any (m := n - 1 - 1) ?_
    have hWs : w.heap.size + 2 ≤ W.heap.size := by have := hlt hl; omega
    refine ⟨fn, _, assign, body, run_yield hl (hps x), roundIn_of_wpIn hfn (hassign _ pre x W _ hi hkn hWs ?_)⟩
    intro a' Wa hka hba hia hkna hax
    have hl0 := hl
    have hb00 : But (ownP own w.heap.size) W Wa := hba.mono (fun k e => Or.inl e)
    replace hl := hka.same _ _ hl rfl
    replace hd := hka.same _ _ hd rfl
    replace hi := hia
    replace hkn := hkna
    clear hia hkna hl0
    revert hb00
    generalize W = Wb
    intro hb00
    clear hka hba hWs
    obtain ⟨W, rfl⟩ : ∃ W, W = Wa := ⟨_, rfl⟩
    refine ⟨_, run_beginRound hl rfl, ?_⟩
    obtain ⟨W2, hW2⟩ : ∃ W2, W.putObj (w.heap.size + 1) (.loop (rc .busy none)) = W2 := ⟨_, rfl⟩
    have hl2 : W2.heap[w.heap.size + 1]? = some (.loop (rc .busy none)) := by rw [← hW2]; exact World.putObj_heap_same (hlt hl)
    have hd2 : W2.heap[w.heap.size]? = some (.deferred (some [])) := by rw [← hW2]; exact (World.putObj_heap_other (by omega)).trans hd
    have hk2 : But (ownP own w.heap.size) W W2 := by rw [← hW2]; exact But.putObj W _ (Or.inr (Or.inr rfl))
    have hi2 : I pre W2 := by rw [← hW2]; exact hI.putObj _ hi (by omega) hl rfl
    have hkn2 : Kn x W2 := by rw [← hW2]; exact (hKn x).putObj (s := ()) _ hkn (by omega) hl rfl
    have hsz : w.heap.size + 2 ≤ W2.heap.size := by have := hlt hl2; omega
    rw [show W.putObj (w.heap.size + 1) (.loop { rc .ready none with state := .busy }) = W2 from hW2]
    have hax2 : Ax x a' W2 := by rw [← hW2]; exact (hAx x a').putObj (s := ()) _ hax (by omega) hl rfl
    refine wpIn_mono (hbody _ pre x a' W2 hi2 hkn2 hax2 hsp hsz) ?_
    -- the end of a round
    have fin : ∀ (jump : Option Code) (W3 : World), KeepsOthers W2 W3 → ∃ W4, (Instr.endRound (w.heap.size + 1) jump).run P W3 = .ok (.bool jump.isNone) W4 ∧ W4 = W3.putObj (w.heap.size + 1) (.loop (rc (if jump.isNone then .ready else .done) jump)) ∧
        W3.heap[w.heap.size + 1]? = some (.loop (rc .busy none)) ∧ W4.heap[w.heap.size + 1]? = some (.loop (rc (if jump.isNone then .ready else .done) jump)) ∧ W4.heap[w.heap.size]? = some (.deferred (some [])) := fun jump W3 hk => by
      have h3 := hk.same _ _ hl2 rfl
      exact ⟨_, run_endRound jump h3, rfl, h3, World.putObj_heap_same (hlt h3), (World.putObj_heap_other (by omega)).trans (hk.same _ _ hd2 rfl)⟩
    rintro e a3 W3 hp
    cases e with
    | normal =>
      obtain ⟨hk, hkp, hi3⟩ := hp
      obtain ⟨W4, hr, e4, h3, h4, h5⟩ := fin none W3 hk
      refine ⟨_, _, hr, .inl ⟨rfl, ⟨?_, h4, h5⟩, ?_⟩⟩
      · rw [e4]; exact hI.putObj _ hi3 (by omega) h3 rfl
      · rw [e4]; exact ((hb00.trans hk2).trans (hkp.mono (fun k e => Or.inl e))).trans (But.putObj W3 _ (Or.inr (Or.inr rfl)))
    | ret =>
      obtain ⟨hk, hkp, hi3⟩ := hp
      obtain ⟨W4, hr, e4, h3, h4, h5⟩ := fin (some .ret) W3 hk
      exact ⟨_, _, hr, .inr ⟨rfl, ⟨.ret, by rw [e4]; exact (hIx _).putObj _ hi3 (by omega) h3 rfl, h4, h5⟩, by rw [e4]; exact ((hb00.trans hk2).trans (hkp.mono (fun k e => Or.inl e))).trans (But.putObj W3 _ (Or.inr (Or.inr rfl)))⟩⟩
    | exit id =>
      obtain ⟨hk, hkp, hi3⟩ := hp
      obtain ⟨W4, hr, e4, h3, h4, h5⟩ := fin (some (.exit id)) W3 hk
      exact ⟨_, _, hr, .inr ⟨rfl, ⟨.exit id, by rw [e4]; exact (hIx _).putObj _ hi3 (by omega) h3 rfl, h4, h5⟩, by rw [e4]; exact ((hb00.trans hk2).trans (hkp.mono (fun k e => Or.inl e))).trans (But.putObj W3 _ (Or.inr (Or.inr rfl)))⟩⟩
    | goto t => exact hp.elim
    | panic ch => exact hp.elim
    | outgrown => exact hp.elim
  · -- behind the iterator
    rintro e W2 ⟨⟨v, rfl⟩, (⟨xs, hS, hi, hl, hd⟩ | ⟨pre, hSp, c, hi, hl, hd⟩)⟩
    · exact ⟨none, _, run_endLoop hl (by simp [rc]), hdone _ xs _ (Nat.le_refl _) hS (hI.putObj _ hi (by omega) hl rfl) ((World.putObj_heap_other (by omega)).trans hd)⟩
    · exact ⟨some c, _, run_endLoop hl (by simp [rc]), hstop _ c pre _ (Nat.le_refl _) hSp ((hIx c).putObj _ hi (by omega) hl rfl) ((World.putObj_heap_other (by omega)).trans hd)⟩end Go.Proofs.YtmdbbfoejmakdaaDoor.Ha

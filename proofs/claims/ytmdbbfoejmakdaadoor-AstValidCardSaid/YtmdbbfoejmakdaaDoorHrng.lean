/-
  A law of a range over a function whose rounds are told what the iterator knows of the values that it hands over (Kn). By this session, out of its own program (wip/gen).
-/
import Derived.RangeFuncNested
import Derived.RangeFuncBound
import Derived.RangeFuncCalls
import Derived.RangeFuncLeaves
import Derived.Sort.QuietThIn
import Derived.Test.YtmdbbfoejmakdaaDoorHast
namespace Go.Proofs.YtmdbbfoejmakdaaDoor.Ha
open Go.RowKit
set_option linter.unusedVariables false

/-- All but the caller's own boxes lie as they lay. -/
structure But (own : Nat → Prop) (W0 W : World) : Prop where
  os : W.os = W0.os
  tape : W.tape = W0.tape
  output : W.output = W0.output
  size : W0.heap.size ≤ W.heap.size
  block : ∀ k, k < W0.heap.size → ¬ own k → W.heap[k]? = W0.heap[k]?
theorem But.refl (own : Nat → Prop) (W : World) : But own W W := ⟨rfl, rfl, rfl, Nat.le_refl _, fun _ _ _ => rfl⟩
theorem But.below {own : Nat → Prop} {W0 W W' : World} (h : But own W0 W) (hb : Below W.heap.size W W') : But own W0 W' :=
  ⟨hb.os.trans h.os, hb.tape.trans h.tape, hb.output.trans h.output, Nat.le_trans h.size hb.size, fun k h1 h2 => (hb.block k (Nat.lt_of_lt_of_le h1 h.size)).trans (h.block k h1 h2)⟩
theorem But.setCell {own : Nat → Prop} {W0 W : World} (h : But own W0 W) (a : Addr) (v : Value) (ho : own a.block) : But own W0 (W.setCell a v) :=
  ⟨h.os, h.tape, h.output, Nat.le_trans h.size (KeepsOthers.setCell W a v).size, fun k h1 h2 => (Below.heap_setCell W a v k (fun e => h2 (by rw [e]; exact ho))).trans (h.block k h1 h2)⟩
theorem But.drew {own : Nat → Prop} {W0 W : World} (h : But own W0 W) : But own W0 W.drew := ⟨h.os, h.tape, h.output, h.size, h.block⟩
theorem But.under {own : Nat → Prop} {W0 W : World} (h : But own W0 W) {n : Nat} (hn : ∀ k, k < n → ¬ own k) (hs : n ≤ W0.heap.size) : Below n W0 W :=
  ⟨h.os, h.tape, h.output, h.size, fun k hk => h.block k (by omega) (hn k hk)⟩
theorem But.cell {own : Nat → Prop} {W0 W : World} (h : But own W0 W) {b j : Nat} (hb : b < W0.heap.size) (ho : ¬ own b) : W.cell? ⟨b, j, none⟩ = W0.cell? ⟨b, j, none⟩ := World.cell?_of_block (h.block b hb ho)
theorem But.frozen {own : Nat → Prop} {W0 W : World} (h : But own W0 W) {b j : Nat} (hb : b < W0.heap.size) (ho : ¬ own b) : W.frozen? ⟨b, j, none⟩ = W0.frozen? ⟨b, j, none⟩ := World.frozen?_of_block (h.block b hb ho)
theorem But.own {β : Type} (own : Nat → Prop) (W0 : World) : OwnFrom W0.heap.size (fun (_ : β) W => But own W0 W) := fun s A B row hs hg hr =>
  ⟨hg.os.trans hs.os, hg.tape.trans hs.tape, hg.output.trans hs.output, Nat.le_trans hs.size hg.size, fun k h1 h2 => (hg.block k (Nat.lt_of_lt_of_le h1 hs.size) (fun e => by have := (hr k e.symm).1; omega)).trans (hs.block k h1 h2)⟩
theorem But.trans {own : Nat → Prop} {A B C : World} (h : But own A B) (k : But own B C) : But own A C :=
  ⟨k.os.trans h.os, k.tape.trans h.tape, k.output.trans h.output, Nat.le_trans h.size k.size, fun i h1 h2 => (k.block i (Nat.lt_of_lt_of_le h1 h.size) h2).trans (h.block i h1 h2)⟩
theorem But.of_below {own : Nat → Prop} {A B : World} (h : Below A.heap.size A B) : But own A B := (But.refl own A).below h
theorem But.mono {own own' : Nat → Prop} {A B : World} (h : But own A B) (ho : ∀ k, own k → own' k) : But own' A B := ⟨h.os, h.tape, h.output, h.size, fun k h1 h2 => h.block k h1 (fun e => h2 (ho k e))⟩
theorem But.putObj {own : Nat → Prop} (W : World) {l : Nat} (o : Obj) (h : own l) : But own W (W.putObj l o) := ⟨rfl, rfl, rfl, by simp, fun k _ hk => World.putObj_heap_other (fun e => hk (by rw [e]; exact h))⟩
theorem KeepsOthers.of_below {A B : World} (h : Below A.heap.size A B) : KeepsOthers A B :=
  ⟨h.size, fun k o hk _ => (h.block k (Array.getElem?_eq_some_iff.1 hk).1).trans hk⟩

/-- It stays true where all that lay lies. -/
def Stays {β : Type} (J : β → World → Prop) : Prop := ∀ s A B, J s A → Below A.heap.size A B → J s B

theorem But.stays {β : Type} (own : Nat → Prop) (W0 : World) : Stays (fun (_ : β) W => But own W0 W) := fun s A B hs hb => hs.below hb
theorem Stays.and {β : Type} {I I' : β → World → Prop} (h : Stays I) (h' : Stays I') : Stays (fun s W => I s W ∧ I' s W) := fun s A B hs hb => ⟨h s A B hs.1 hb, h' s A B hs.2 hb⟩
/-- The caller's own boxes and the loop's two blocks. -/
def ownP (own : Nat → Prop) (n : Nat) (k : Nat) : Prop := own k ∨ k = n ∨ k = n + 1
/-- The word of an iterator: Kn x W is what it knows of a value x at the round's start. -/
def SeqKnown {α : Type} (P : Program) (g : Nat) (lb : Array Value) (encs : α → Array Value) (Kn : α → World → Prop) (own : Nat → Prop) (S Sp : List α → Prop) (w : World) : Prop :=
  ∀ (l : Nat) (J Jx : List α → World → Prop) (W : World), Below w.heap.size w W → w.heap.size + 2 ≤ W.heap.size → Stays J → Stays Jx →
    (∀ pre x W1, J pre W1 → Kn x W1 → Sp (pre ++ [x]) → ∀ m, YieldAt Fence.wide m P l (encs x) W1 fun e W' =>
      (e = .returned (.bool true) ∧ J (pre ++ [x]) W' ∧ But (ownP own w.heap.size) W1 W') ∨ (e = .returned (.bool false) ∧ Jx (pre ++ [x]) W' ∧ But (ownP own w.heap.size) W1 W')) →
    J [] W →
    Calls P g (#[.func (.yield l) #[] #[]] ++ lb) W fun e W' => (∃ v, e = .returned v) ∧ ((∃ xs, S xs ∧ J xs W') ∨ (∃ pre, Sp pre ∧ Jx pre W'))

/-- How the body of a round may be left. -/
def knownPost {α : Type} (own : Nat → Prop) (I : List α → World → Prop) (Ix : Code → List α → World → Prop) (xs : List α) (W : World) : Exit → Act → World → Prop
  | .normal, _, W' => KeepsOthers W W' ∧ But own W W' ∧ I xs W'
  | .ret, _, W' => KeepsOthers W W' ∧ But own W W' ∧ Ix .ret xs W'
  | .exit id, _, W' => KeepsOthers W W' ∧ But own W W' ∧ Ix (.exit id) xs W'
  | _, _, _ => False

theorem wide_room (n : Nat) : Fence.wide.room n := room_wide n
theorem yield_any {m m' : Nat} {P : Program} {l : Nat} {args : Array Value} {W : World} {R : Ending → World → Prop} (h : YieldAt Fence.wide m P l args W R) : YieldAt Fence.wide m' P l args W R := by
  obtain ⟨fn, tmps, assign, body, hy, h1, h2⟩ := h
  exact ⟨fn, tmps, assign, body, hy, h1, fun c cs _ => h2 c cs (room_wide _)⟩

theorem range_known {α : Type} {P : Program} {n : Nat} {g : Operand} {ps : Array Tmp} {assign body : Code} {Q : Exit → Act → World → Prop} {a : Act} {w : World} (h1 : 1 ≤ n)
    {gf : Nat} {lb : Array Value} (hg : a.eval g = .func (.func gf) #[] lb) (eg : ∀ args w, (callFunc gf args).run P w = .ok (.enter gf args) w)
    {encs : α → Array Value} {Kn : α → World → Prop} {own : Nat → Prop} {S Sp : List α → Prop} (hseq : SeqKnown P gf lb encs Kn own S Sp w) (hps : ∀ x, (encs x).size = ps.size)
    (hKn : ∀ x, OwnFrom w.heap.size (fun (_ : Unit) W => Kn x W))
    (I : List α → World → Prop) (Ix : Code → List α → World → Prop) (hI : OwnFrom w.heap.size I) (hIs : Stays I) (hIx : ∀ c, OwnFrom w.heap.size (Ix c)) (hIxs : ∀ c, Stays (Ix c)) (h0 : I [] w) (a₁ : α → Act)
    (hassign : ∀ (l : Nat) (x : α) (W : World) (K : Act → World → Prop), K (a₁ x) W →
      assign.wpIn (Fence.wide.inRound l) (n - 1 - 1) P (Exit.then K (fun _ _ _ => False)) { tmps := (ps.zip (encs x)).foldl (fun t (p, v) => t.setIfInBounds p v) a.tmps, defers := [] } W)
    (hbody : ∀ (l : Nat) (pre : List α) (x : α) (W : World), I pre W → Kn x W → Sp (pre ++ [x]) → w.heap.size + 2 ≤ W.heap.size → body.wpIn (Fence.wide.inRound l) (n - 1 - 1) P (knownPost own I Ix (pre ++ [x]) W) (a₁ x) W)
    (hdone : ∀ (D : Nat) (xs : List α) (W : World), w.heap.size ≤ D → S xs → I xs W → W.heap[D]? = some (.deferred (some [])) → Q .normal { a with defers := { target := .collected D, args := #[] } :: a.defers } W)
    (hstop : ∀ (D : Nat) (c : Code) (pre : List α) (W : World), w.heap.size ≤ D → Sp pre → Ix c pre W → W.heap[D]? = some (.deferred (some [])) → c.wpIn Fence.wide n P Q { a with defers := { target := .collected D, args := #[] } :: a.defers } W) :
    (Code.rangeFunc g ps assign body).wpIn Fence.wide n P Q a w := by
  refine wpIn_rangeFunc fun fn hfn => ?_
  let rc : LoopState → Option Code → Loop := fun st pe => { state := st, pending := pe, fn, tmps := a.tmps, params := ps, assign, body, defers := w.heap.size }
  obtain ⟨V, hV⟩ : ∃ V, (w.alloc (.deferred (some []))).alloc (.loop (rc .ready none)) = V := ⟨_, rfl⟩
  have hs : V.heap.size = w.heap.size + 2 := by rw [← hV]; simp
  have hwV : Below w.heap.size w V := by rw [← hV]; exact ((Below.refl _ w).alloc (Nat.le_refl _) _).alloc (by simp) _
  have hD : V.heap[w.heap.size]? = some (.deferred (some [])) := by rw [← hV]; exact (Below.heap_alloc _ _ _ (by simp)).trans (World.alloc_heap_new w _)
  have hL : V.heap[w.heap.size + 1]? = some (.loop (rc .ready none)) := by
    have h := World.alloc_heap_new (w.alloc (.deferred (some []))) (.loop (rc .ready none))
    rw [World.size_alloc, hV] at h
    exact h
  have hlt : ∀ {A : World} {k : Nat} {o : Obj}, A.heap[k]? = some o → k < A.heap.size := fun h => (Array.getElem?_eq_some_iff.1 h).1
  -- the invariant of the rounds
  let J : List α → World → Prop := fun pre W => I pre W ∧ W.heap[w.heap.size + 1]? = some (.loop (rc .ready none)) ∧ W.heap[w.heap.size]? = some (.deferred (some []))
  let Jx : List α → World → Prop := fun pre W => ∃ c, Ix c pre W ∧ W.heap[w.heap.size + 1]? = some (.loop (rc .done (some c))) ∧ W.heap[w.heap.size]? = some (.deferred (some []))
  have hJ : Stays J := fun s A B h hb => ⟨hIs s A B h.1 hb, (hb.block _ (hlt h.2.1)).trans h.2.1, (hb.block _ (hlt h.2.2)).trans h.2.2⟩
  have hJx : Stays Jx := fun s A B ⟨c, h, h2, h3⟩ hb => ⟨c, hIxs c s A B h hb, (hb.block _ (hlt h2)).trans h2, (hb.block _ (hlt h3)).trans h3⟩
  refine ⟨w.heap.size + 1, [{ target := .collected w.heap.size, args := #[] }], V, { target := .fn (.func gf) lb, args := #[.func (.yield (w.heap.size + 1)) #[] #[]] }, V, gf,
    #[.func (.yield (w.heap.size + 1)) #[] #[]] ++ lb, V, ?_, ?_, fun _ _ => trivial, ?_, (fun h => by simp [Fence.wide] at h), ?_⟩
  · rw [← hV]; exact run_enterLoop_outer _ _ _ _ _
  · simp only [resolve, hg]
    simp [go_sem]
  · simp [invoke, go_sem, eg]
  refine callsIn_wide.2 ?_
  refine (hseq (w.heap.size + 1) J Jx V hwV (by omega) hJ hJx ?_ ⟨hIs _ _ _ h0 hwV, hL, hD⟩).mono ?_
  · -- one round
    rintro pre x W ⟨hi, hl, hd⟩ hkn hsp m
    refine yield_any (m := n - 1 - 1) ?_
    refine ⟨fn, _, assign, body, run_yield hl (hps x), roundIn_of_wpIn hfn (hassign _ x W _ ⟨_, run_beginRound hl rfl, ?_⟩)⟩
    obtain ⟨W2, hW2⟩ : ∃ W2, W.putObj (w.heap.size + 1) (.loop (rc .busy none)) = W2 := ⟨_, rfl⟩
    have hl2 : W2.heap[w.heap.size + 1]? = some (.loop (rc .busy none)) := by rw [← hW2]; exact World.putObj_heap_same (hlt hl)
    have hd2 : W2.heap[w.heap.size]? = some (.deferred (some [])) := by rw [← hW2]; exact (World.putObj_heap_other (by omega)).trans hd
    have hk2 : But (ownP own w.heap.size) W W2 := by rw [← hW2]; exact But.putObj W _ (Or.inr (Or.inr rfl))
    have hi2 : I pre W2 := by rw [← hW2]; exact hI.putObj _ hi (by omega) hl rfl
    have hkn2 : Kn x W2 := by rw [← hW2]; exact (hKn x).putObj (s := ()) _ hkn (by omega) hl rfl
    have hsz : w.heap.size + 2 ≤ W2.heap.size := by have := hlt hl2; omega
    rw [show W.putObj (w.heap.size + 1) (.loop { rc .ready none with state := .busy }) = W2 from hW2]
    refine wpIn_mono (hbody _ pre x W2 hi2 hkn2 hsp hsz) ?_
    -- the end of a round
    have fin : ∀ (jump : Option Code) (W3 : World), KeepsOthers W2 W3 → ∃ W4, (Instr.endRound (w.heap.size + 1) jump).run P W3 = .ok (.bool jump.isNone) W4 ∧ W4 = W3.putObj (w.heap.size + 1) (.loop (rc (if jump.isNone then .ready else .done) jump)) ∧
        W3.heap[w.heap.size + 1]? = some (.loop (rc .busy none)) ∧ W4.heap[w.heap.size + 1]? = some (.loop (rc (if jump.isNone then .ready else .done) jump)) ∧ W4.heap[w.heap.size]? = some (.deferred (some [])) := fun jump W3 hk => by
      have h3 := hk.same _ _ hl2 rfl
      exact ⟨_, run_endRound jump h3, rfl, h3, World.putObj_heap_same (hlt h3), (World.putObj_heap_other (by omega)).trans (hk.same _ _ hd2 rfl)⟩
    rintro e a3 W3 hp
    cases e with
    | normal =>
      obtain ⟨hk, hkp, hi3⟩ := hp
      obtain ⟨W4, hr, e4, h3, h4, h5⟩ := fin none W3 hk
      refine ⟨_, _, hr, .inl ⟨rfl, ⟨?_, h4, h5⟩, ?_⟩⟩
      · rw [e4]; exact hI.putObj _ hi3 (by omega) h3 rfl
      · rw [e4]; exact (hk2.trans (hkp.mono (fun k e => Or.inl e))).trans (But.putObj W3 _ (Or.inr (Or.inr rfl)))
    | ret =>
      obtain ⟨hk, hkp, hi3⟩ := hp
      obtain ⟨W4, hr, e4, h3, h4, h5⟩ := fin (some .ret) W3 hk
      exact ⟨_, _, hr, .inr ⟨rfl, ⟨.ret, by rw [e4]; exact (hIx _).putObj _ hi3 (by omega) h3 rfl, h4, h5⟩, by rw [e4]; exact (hk2.trans (hkp.mono (fun k e => Or.inl e))).trans (But.putObj W3 _ (Or.inr (Or.inr rfl)))⟩⟩
    | exit id =>
      obtain ⟨hk, hkp, hi3⟩ := hp
      obtain ⟨W4, hr, e4, h3, h4, h5⟩ := fin (some (.exit id)) W3 hk
      exact ⟨_, _, hr, .inr ⟨rfl, ⟨.exit id, by rw [e4]; exact (hIx _).putObj _ hi3 (by omega) h3 rfl, h4, h5⟩, by rw [e4]; exact (hk2.trans (hkp.mono (fun k e => Or.inl e))).trans (But.putObj W3 _ (Or.inr (Or.inr rfl)))⟩⟩
    | goto t => exact hp.elim
    | panic ch => exact hp.elim
    | outgrown => exact hp.elim
  · -- behind the iterator
    rintro e W2 ⟨⟨v, rfl⟩, (⟨xs, hS, hi, hl, hd⟩ | ⟨pre, hSp, c, hi, hl, hd⟩)⟩
    · exact ⟨none, _, run_endLoop hl (by simp [rc]), hdone _ xs _ (Nat.le_refl _) hS (hI.putObj _ hi (by omega) hl rfl) ((World.putObj_heap_other (by omega)).trans hd)⟩
    · exact ⟨some c, _, run_endLoop hl (by simp [rc]), hstop _ c pre _ (Nat.le_refl _) hSp ((hIx c).putObj _ hi (by omega) hl rfl) ((World.putObj_heap_other (by omega)).trans hd)⟩
/-! A region that draws, within a round: as in a plain frame, where nothing is deferred. -/
section
variable {n l : Nat} {P : Program} {ops : Array Oper} {Q : Exit → Act → World → Prop} {md : Region.Mode}
theorem wpOpIn_round (hnd : ∀ (i : Nat) (o : Oper), ops[i]? = some o → ∀ c, o.op ≠ .defer c) {i : Nat} {K K' : Act → World → Prop} {a : Act} {w : World} (hK : ∀ a w, K a w → K' a w) (h : wpOpIn Fence.wide n P ops Q i K a w) : wpOpIn (Fence.wide.inRound l) n P ops Q i K' a w := by
  replace h := wpOpIn_mono hK h
  unfold wpOpIn at *
  cases ho : ops[i]? with
  | none => rw [ho] at h; exact h
  | some o =>
    rw [ho] at h
    simp only at h ⊢
    split
    · rename_i hw
      rw [if_pos hw] at h
      unfold Oper.wpIn at *
      have e : o.semAt (Fence.wide.inRound l).round a.eval = o.semAt Fence.wide.round a.eval := by rw [Oper.semAt_eq _ _ _ (hnd i o ho), Oper.semAt_eq _ _ _ (hnd i o ho)]
      rw [e]
      refine ⟨h.1, ?_⟩
      have h2 := h.2
      generalize (o.semAt Fence.wide.round a.eval).run P w = r at *
      cases r with
      | ok x w' => cases x <;> exact h2
      | halt x w' => cases x <;> exact h2
    · rename_i hw
      rw [if_neg hw] at h
      exact h
theorem wpAnyIn_round (hnd : ∀ (i : Nat) (o : Oper), ops[i]? = some o → ∀ c, o.op ≠ .defer c) : ∀ (fuel : Nat) (listed : Array Bool) (a : Act) (w : World), wpAnyIn Fence.wide n P md ops Q fuel listed a w → wpAnyIn (Fence.wide.inRound l) n P md ops Q fuel listed a w
  | 0, _, _, _, h => h
  | fuel + 1, listed, a, w, h => ⟨h.1, fun i hi => wpOpIn_round hnd (fun a' w' h' => wpAnyIn_round hnd fuel _ a' w' h') (h.2 i hi)⟩
theorem region_round {id : Nat} {a : Act} {w : World} (hnd : ∀ (i : Nat) (o : Oper), ops[i]? = some o → ∀ c, o.op ≠ .defer c) (hm : P.follows .mixedOrders = true)
    (h : wpAnyIn Fence.wide n P .any ops Q ops.size (Array.replicate ops.size false) a { w with drawn := w.drawn + 1 }) : (Code.region id ops true).wpIn (Fence.wide.inRound l) n P Q a w :=
  wpIn_region_any hm (wpAnyIn_round hnd _ _ _ _ h)
def noDefer (o : Oper) : Bool := match o.op with
  | .defer _ => false
  | _ => true
theorem noDefer_all {lo : List Oper} (h : lo.all noDefer = true) : ∀ (i : Nat) (o : Oper), lo.toArray[i]? = some o → ∀ c, o.op ≠ .defer c := by
  intro i o ho c e
  have hm : o ∈ lo := by
    rw [List.getElem?_toArray] at ho
    exact List.mem_of_getElem? ho
  have := List.all_eq_true.1 h o hm
  unfold noDefer at this
  rw [e] at this
  cases this
theorem round_quiet {id : Nat} {a : Act} {w : World} {lo : List Oper} {C : World → Prop} (hnd : lo.all noDefer = true) (hm : P.follows .mixedOrders = true) (hB : Region.lexB .any lo.toArray = true) (hC : C { w with drawn := w.drawn + 1 })
    (h : wpQuietIn Fence.wide n P lo.toArray C (fun a' => ∀ w', C w' → Q .normal a' w') lo a) : (Code.region id lo.toArray true).wpIn (Fence.wide.inRound l) n P Q a w := by
  simp only [Region.lexB, Bool.and_eq_true] at hB
  refine region_round (noDefer_all hnd) hm (wpAnyIn_of_quiet (Q := fun a' => ∀ w', C w' → Q .normal a' w') rfl (fun _ w' hw' h => h w' hw') _ _ _ _ hC ?_)
  have := wpAnyQIn_lex (F := Fence.wide) (n := n) (C := C) (md := .any) hB.1 lo 0 (Array.replicate lo.length false) a (by simp) (by simpa using hB.2) h
  simpa using this
theorem round_quiet_lit {id : Nat} {a : Act} {w : World} {lo : List Oper} (hnd : lo.all noDefer = true) (hm : P.follows .mixedOrders = true) (hB : Region.lexB .any lo.toArray = true)
    (h : wpQuietIn Fence.wide n P lo.toArray (fun w' => ∃ n, w' = w.drewN n) (fun a' => ∀ w', (∃ n, w' = w.drewN n) → Q .normal a' w') lo a) : (Code.region id lo.toArray true).wpIn (Fence.wide.inRound l) n P Q a w :=
  round_quiet (C := fun w' => ∃ n, w' = w.drewN n) hnd hm hB ⟨1, rfl⟩ h
end
/-- A box of one cell. -/
def Box1 (W : World) (b : Nat) (v : Value) : Prop := W.cell? ⟨b, 0, none⟩ = some v ∧ W.frozen? ⟨b, 0, none⟩ = false
theorem Box1.lt {W : World} {b : Nat} {v : Value} (h : Box1 W b v) : b < W.heap.size := World.block_lt_of_cell? W _ h.1
theorem Box1.below {W W' : World} {b : Nat} {v : Value} (h : Box1 W b v) (hb : Below W.heap.size W W') : Box1 W' b v := ⟨(hb.cell (p := ⟨b, 0, none⟩) h.lt).trans h.1, (hb.frozen (p := ⟨b, 0, none⟩) h.lt).trans h.2⟩
theorem Box1.set {W : World} {b : Nat} {v : Value} (h : Box1 W b v) (u : Value) : Box1 (W.setCell ⟨b, 0, none⟩ u) b u := ⟨World.cell?_setCell_same' _ _ _ (by rw [h.1]; rfl), by rw [World.frozen?_setCell]; exact h.2⟩
theorem Box1.new (W : World) (v : Value) (t : TypeId) : Box1 (W.alloc (.cells #[v] t)) W.heap.size v := ⟨(box_new W #[v] t 0).trans rfl, by
  unfold World.frozen?
  rw [World.alloc_heap_new]
  simp⟩
theorem Box1.stays {β : Type} (b : Nat) (f : β → Value) : Stays (fun s W => Box1 W b (f s)) := fun s A B hs hb => hs.below hb
theorem Box1.own {β : Type} (B b : Nat) (f : β → Value) : OwnFrom B (fun s W => Box1 W b (f s)) := fun s X Y row hs hg hr => ⟨cell_kept hs.1 hg (fun r e => (hr r e).2), (frozen_kept hs.1 hg (fun r e => (hr r e).2)).trans hs.2⟩
end Go.Proofs.YtmdbbfoejmakdaaDoor.Ha

/-
  A list of paths that grows while a tree is walked: what holds between two rounds. The law's ints over equal paths. By this session, out of its own program (wip/gen).
-/
import Derived.Test.YtmdbbfoejmakdaaDoorHrng3
import Derived.Test.YtmdbbfoejmakdaaDoorHlaw12d
import Derived.Test.YtmdbbfoejmakdaaDoorPx11
import Derived.Test.YtmdbbfoejmakdaaDoorHwkp
namespace Go.Proofs.YtmdbbfoejmakdaaDoor.Ha
open Go.RowKit Go.Shelf Go.Proofs.YtmdbbfoejmakdaaDoorW.PrintWords Go.Proofs.YtmdbbfoejmakdaaDoorW.PrintLast Go.Proofs.YtmdbbfoejmakdaaDoorW.PrintMore Go.Proofs.YtmdbbfoejmakdaaDoor.P
set_option linter.unusedVariables false
set_option linter.unusedSimpArgs false
/-- The caller's own blocks: the list's box; the rows of lists of paths that are newer than n. -/
def kpOwn (S n : Nat) (k : Nat) (o : Option Obj) : Prop := k = S ∨ (n ≤ k ∧ ∃ cs f, o = some (.cells cs 34 f))
theorem kpOwn_lt {S n m : Nat} (hS : m ≤ S) (hn : m ≤ n) (k : Nat) (o : Option Obj) (h : k < m) : ¬ kpOwn S n k o := by
  rintro (h1 | ⟨h1, _⟩) <;> omega
theorem kpOwn_or {S n m : Nat} (hS : S < m) (k : Nat) (o : Option Obj) (h : kpOwn S n k o) : k < m ∨ ∃ cs f, o = some (.cells cs 34 f) := by
  rcases h with h | ⟨_, h⟩
  · exact Or.inl (by omega)
  · exact Or.inr h
theorem own_own {A B : World} {row : Option Nat} {N : Nat} {base size n : Nat} {e : TypeId} {v : Value} {xs : List Value} (h : A.ownsRow base e size v n xs) (hg : A.grownBy B row) (hr : ∀ r, row = some r → N ≤ r ∧ ∃ o : Obj, A.heap[r]? = some o ∧ o.isCells = false) : B.ownsRow base e size v n xs := by
  obtain ⟨h1, h2⟩ := h
  refine ⟨h1, ?_⟩
  rcases h2 with h2 | ⟨g, cap, cur, hv, hgb, hh, r⟩
  · exact Or.inl h2
  · exact Or.inr ⟨g, cap, cur, hv, hgb, (grownBy_keeps_cells hg (fun r e => (hr r e).2) hh rfl).trans hh, r⟩
theorem But3.owned {own : Own} {W0 W W' : World} (h : But3 own W0 W) (h' : But3 (ownP3 own W0.heap.size) W W') : But3 own W0 W' :=
  ⟨h'.os.trans h.os, h'.tape.trans h.tape, h'.output.trans h.output, Nat.le_trans h.size h'.size, fun k h1 h2 => by
    have e := h.block k h1 h2
    refine (h'.block k (Nat.lt_of_lt_of_le h1 h.size) (fun e' => ?_)).trans e
    rcases e' with e' | e' | e'
    · rw [e] at e'; exact h2 e'
    · omega
    · omega⟩
/-- What holds between two rounds. -/
def KpI (S : Nat) (Wl : World) (pre : List Vis) (W : World) : Prop :=
  But3 (kpOwn S Wl.heap.size) Wl W ∧ ∃ kv, Box1 W S kv ∧ W.ownsRow Wl.heap.size 34 1 kv pre.length (pre.map Vis.pv) ∧ ∀ v ∈ pre, pathAt Wl.heap.size W v.pv v.path
theorem KpI.own (S : Nat) (Wl : World) : OwnFrom Wl.heap.size (KpI S Wl) := fun pre A B row h hg hr => by
  obtain ⟨h1, kv, h2, h3, h4⟩ := h
  exact ⟨But3.own (β := List Vis) _ _ pre A B row h1 hg hr, kv, Box1.own _ _ (fun (_ : Unit) => kv) () A B row h2 hg hr, own_own h3 hg hr, fun v hv => pathAt_own _ _ Vis.pv Vis.path v A B row (h4 v hv) hg hr⟩
theorem KpI.stays (S : Nat) (Wl : World) : Stays (KpI S Wl) := fun pre A B h hb => by
  obtain ⟨h1, kv, h2, h3, h4⟩ := h
  exact ⟨h1.below hb, kv, h2.below hb, pw_own_below h3 hb, fun v hv => (h4 v hv).below hb⟩
theorem KpI.step {S : Nat} {Wl W W4 W5 : World} {pre : List Vis} {v : Vis} {kv v' : Value} (h1 : But3 (kpOwn S Wl.heap.size) Wl W) (hbox : Box1 W S kv) (hrow : W.ownsRow Wl.heap.size 34 1 kv pre.length (pre.map Vis.pv)) (hp : ∀ u ∈ pre, pathAt Wl.heap.size W u.pv u.path)
    (hv : pathAt Wl.heap.size W v.pv v.path) (hB : Below W.heap.size W W4) (hown : W5.ownsRow Wl.heap.size 34 1 v' (pre.length + 1) (pre.map Vis.pv ++ [v.pv])) (hg : W4.grownBy W5 kv.ownBlock) (hS : S < Wl.heap.size) :
    KeepsOthers W (W5.setCell ⟨S, 0, none⟩ v') ∧ But3 (kpOwn S Wl.heap.size) W (W5.setCell ⟨S, 0, none⟩ v') ∧ KpI S Wl (pre ++ [v]) (W5.setCell ⟨S, 0, none⟩ v') := by
  have hrow4 := pw_own_below hrow hB
  have ht := fun k (e : kv.ownBlock = some k) => own_typed hrow4 k e
  have hb := fun k (e : kv.ownBlock = some k) => own_base hrow4 k e
  have e1 : But3 (kpOwn S Wl.heap.size) W (W5.setCell ⟨S, 0, none⟩ v') :=
    ((But3.of_below hB).trans (But3.grown hg (fun k e => Or.inr ⟨hb k e, by obtain ⟨cs, h⟩ := ht k e; exact ⟨cs, _, h⟩⟩))).setCell _ _ (Or.inl rfl)
  have hbox5 : Box1 W5 S kv := by
    have h4 := hbox.below hB
    have : W5.heap[S]? = W4.heap[S]? := hg.block S h4.lt (fun e => by have := hb S e.symm; omega)
    exact ⟨(World.cell?_of_block (a := ⟨S, 0, none⟩) this).trans h4.1, (World.frozen?_of_block (a := ⟨S, 0, none⟩) this).trans h4.2⟩
  have hk := fun (u : Vis) (h : pathAt Wl.heap.size W u.pv u.path) => h.keep3 (kpOwn_or hS) e1
  refine ⟨((KeepsOthers.of_below hB).trans (KeepsOthers.of_grownBy hg (fun j o e h => by obtain ⟨cs, h'⟩ := ht j e; rw [h'] at h; cases h; rfl))).trans (KeepsOthers.setCell _ _ _), e1, h1.trans e1, v', hbox5.set v', ?_, fun u hu => ?_⟩
  · rw [List.length_append, List.map_append]
    exact own_setCell hown (fun e => by have := own_base hown S e.symm; omega) _
  · rcases List.mem_append.1 hu with h | h
    · exact hk u (hp u h)
    · rw [List.mem_singleton.1 h]; exact hk v hv
/-- A path in memory of its own reads as its numbers. -/
theorem path_C {b : Nat} {W : World} {v : Value} {p : List Int} (h : pathAt b W v p) : ∃ A c, v = .slice A p.length c ∧ p.length ≤ c ∧ Kd.C (Kd.int .i64) W A p.length p := by
  have hx := Kd.R_reads (d := Kd.int .i64) (e := 3) (w := W) (base := b) (ok := fun _ => True) (v := v) (xs := p) ⟨fun _ _ => trivial, p.map (Value.int .i64), h, by simp [Kd.int, Kd.scalar], fun j q hj => by
    show ((p.map (Value.int .i64)).drop (j * 1)).take 1 = [Value.int .i64 q]
    have hlt := (List.getElem?_eq_some_iff.1 hj).1
    rw [Nat.mul_one, List.drop_eq_getElem_cons (by simpa using hlt)]
    have := (List.getElem?_eq_some_iff.1 hj).2
    simp [this]⟩
  exact hx
theorem intsT (l : List Int) (hl : l.length ≤ 1000000) : Ev fun k => ontimelaw12_ints.f k l l = some true := by
  obtain ⟨r, rfl, h⟩ := ev_loop (fun r => r = true) l.length (fun k i => ontimelaw12_ints.l0 k l l (l.length : Int) (i : Int)) (fun _ => True)
    (fun _ => ⟨_, rfl, Ev.all fun k => by simp only [ontimelaw12_ints.l0]; rw [if_neg (by omega)]⟩)
    (fun i hi _ => Or.inr ⟨trivial, Ev.all fun k => by
      simp only [ontimelaw12_ints.l0]
      rw [if_pos (by omega), if_pos (by omega), if_pos (by omega), if_pos trivial, w64 (by omega) (by omega), if_pos (by omega)]
      rfl⟩)
    trivial
  exact h.mono fun k hk => by unfold ontimelaw12_ints.f; rw [if_pos rfl]; exact hk
end Go.Proofs.YtmdbbfoejmakdaaDoor.Ha

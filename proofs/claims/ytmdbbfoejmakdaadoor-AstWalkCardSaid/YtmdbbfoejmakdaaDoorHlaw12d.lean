/-
  The law AstCounts, walked: it returns true. By this session, out of its own program (wip/gen).
-/
import Derived.Test.YtmdbbfoejmakdaaDoorHawake
import Derived.Test.YtmdbbfoejmakdaaDoorHbig
import Derived.Test.YtmdbbfoejmakdaaDoorHeq
import Derived.Test.YtmdbbfoejmakdaaDoorHat
import Derived.Test.YtmdbbfoejmakdaaDoorHrng2
import Derived.Test.YtmdbbfoejmakdaaDoorHrnd
import Derived.Test.YtmdbbfoejmakdaaDoorHcnt
import Derived.Test.YtmdbbfoejmakdaaDoorHatT
namespace Go.Proofs.YtmdbbfoejmakdaaDoor.Ha
open Go.RowKit Go.Shelf Go.Proofs.YtmdbbfoejmakdaaDoorW.PrintWords Go.Proofs.YtmdbbfoejmakdaaDoorW.PrintLast Go.Proofs.YtmdbbfoejmakdaaDoorW.PrintMore Go.Proofs.YtmdbbfoejmakdaaDoor.P
set_option linter.unusedVariables false
set_option linter.unusedSimpArgs false
open Hl
attribute [local go_sem] Oper.semAt_some
/-- What the walk knows of the two boxes of a law that returns its result by a box. -/
structure Law2 (w : World) (row : Array Value) (W : World) : Prop where
  below : Below w.heap.size w W
  n : ∀ j, W.cell? ⟨w.heap.size, j, none⟩ = row[j]?
  res : Box1 W (w.heap.size + 1) (.bool false)
theorem Law2.start (w : World) (row : Array Value) : Law2 w row ((w.alloc (.cells row 24)).alloc (.cells #[.bool false] 4)) := by
  have h := Box1.new (w.alloc (.cells row 24)) (.bool false) 4
  rw [World.size_alloc] at h
  exact ⟨((Below.refl _ w).alloc (Nat.le_refl _) _).alloc (by simp) _, fun j => box_keep ((Below.refl _ (w.alloc (.cells row 24))).alloc (Nat.le_refl _) _) (by simp) (box_new w row 24) j, h⟩
theorem Law2.step {w : World} {row : Array Value} {W W' : World} (h : Law2 w row W) (hb : Below W.heap.size W W') : Law2 w row W' := by
  have h1 := h.res.lt
  exact ⟨h.below.trans (hb.mono h.below.size), fun j => (hb.cell (p := ⟨w.heap.size, j, none⟩) (by show w.heap.size < _; omega)).trans (h.n j), h.res.below hb⟩
theorem results_box {fn : Func} {p : Tmp} {b : Nat} {v : Bool} {tmps : Array Value} {W : World} (h : fn.results = #[.cell p 4]) (hp : tmps.getD p undef = .pointer (some ⟨b, 0, none⟩)) (hc : W.cell? ⟨b, 0, none⟩ = some (.bool v)) : (results fn tmps).run Tryd.prog W = .ok (.bool v) W := by
  have hp2 : tmps[p]?.getD undef = .pointer (some ⟨b, 0, none⟩) := by simpa [Array.getD_eq_getD_getElem?] using hp
  simp only [results, h]
  simp [go_sem, hp2, hc]
theorem below_put {n D : Nat} {w W : World} {o : Obj} (h : Below n w W) (hD : n ≤ D) : Below n w (W.putObj D o) := ⟨h.os, h.tape, h.output, by have := h.size; simpa using this, fun k hk => (World.putObj_heap_other (by omega)).trans (h.block k hk)⟩
theorem leave0 {fn : Func} {p : Tmp} {b : Nat} {tmps : Array Value} {w W : World} (h : fn.results = #[.cell p 4]) (hp : tmps.getD p undef = .pointer (some ⟨b, 0, none⟩)) (hc : W.cell? ⟨b, 0, none⟩ = some (.bool true)) (hb : Below w.heap.size w W) :
    bodyPostM Fence.wide 5 Tryd.prog fn (fun e w' => e = .returned (.bool true) ∧ Below w.heap.size w w') .ret { tmps := tmps, defers := [] } W := ⟨.bool true, results_box h hp hc, rfl, hb⟩
theorem leave1 {fn : Func} {p : Tmp} {b D : Nat} {tmps : Array Value} {w W : World} (h : fn.results = #[.cell p 4]) (hp : tmps.getD p undef = .pointer (some ⟨b, 0, none⟩)) (hc : W.cell? ⟨b, 0, none⟩ = some (.bool true)) (hb : Below w.heap.size w W) (hD : w.heap.size ≤ D) (hK : W.heap[D]? = some (.deferred (some []))) :
    bodyPostM Fence.wide 5 Tryd.prog fn (fun e w' => e = .returned (.bool true) ∧ Below w.heap.size w w') .ret { tmps := tmps, defers := [{ target := .collected D, args := #[] }] } W := by
  refine ⟨by simp, .inl ⟨_, _, rfl, run_takeDeferred hK, ?_⟩⟩
  have hc5 := cell_kept hc (grownBy_putObj' W D (.deferred none)) (fun r e => by cases e; exact ⟨_, hK, rfl⟩)
  exact ⟨.bool true, results_box h hp hc5, rfl, below_put hb hD⟩
theorem leave2 {fn : Func} {p : Tmp} {b D E : Nat} {tmps : Array Value} {w W : World} (h : fn.results = #[.cell p 4]) (hp : tmps.getD p undef = .pointer (some ⟨b, 0, none⟩)) (hc : W.cell? ⟨b, 0, none⟩ = some (.bool true)) (hb : Below w.heap.size w W) (hD : w.heap.size ≤ D) (hK : W.heap[D]? = some (.deferred (some []))) (hE : w.heap.size ≤ E) (hne : E ≠ D) (hK2 : W.heap[E]? = some (.deferred (some []))) :
    bodyPostM Fence.wide 5 Tryd.prog fn (fun e w' => e = .returned (.bool true) ∧ Below w.heap.size w w') .ret { tmps := tmps, defers := [{ target := .collected D, args := #[] }, { target := .collected E, args := #[] }] } W := by
  refine ⟨by simp, .inl ⟨_, _, rfl, run_takeDeferred hK, ?_⟩⟩
  have hc5 := cell_kept hc (grownBy_putObj' W D (.deferred none)) (fun r e => by cases e; exact ⟨_, hK, rfl⟩)
  have hK3 : (W.putObj D (.deferred none)).heap[E]? = some (.deferred (some [])) := (World.putObj_heap_other hne).trans hK2
  refine ⟨by simp, .inl ⟨_, _, rfl, run_takeDeferred hK3, ?_⟩⟩
  have hc6 := cell_kept hc5 (grownBy_putObj' _ E (.deferred none)) (fun r e => by cases e; exact ⟨_, hK3, rfl⟩)
  exact ⟨.bool true, results_box h hp hc6, rfl, below_put (below_put hb hD) hE⟩
set_option maxHeartbeats 4000000 in
set_option maxRecDepth 100000 in
theorem lawCounts_big (x : Nd) (A : Option Addr) (c : Nat) (w : World) (hT : TabOk w) (hA : At w x A c) (hb : Ev fun k => ontimelaw12_Big.f k x.f0 x.f1 x.f2 x.f3 = some 1) :
    Calls Tryd.prog 10 #[nodeV x A c] w fun e w' => e = .returned (.bool true) ∧ Below w.heap.size w w' := by
  have h0 := Law2.start w #[.int .u8 x.f0, .int .i64 x.f1, .string x.f2, .slice A x.f3.length c]
  have HW := Aside0.mk (awake ((w.alloc (.cells #[.int .u8 x.f0, .int .i64 x.f1, .string x.f2, .slice A x.f3.length c] 24)).alloc (.cells #[.bool false] 4)) (hT.below h0.below))
  have HB := Aside0.mk (fun w' (h : Below w.heap.size w w') => big1 hb (hA.below h))
  have H0 := Aside0.mk h0
  clear hb hA hT h0
  refine (callsIn_wide (n := 5)).1 ?_
  refine callsIn_of_wp_marks Tryd.func10 rfl trivial ?_ rfl
  simp only [Tryd.ntmps10, List.size_toArray, List.length_cons, List.length_nil, Nat.reduceAdd, Nat.reduceSub, Array.replicate_succ, Array.replicate_zero, List.push_toArray, List.append_toArray, List.nil_append, List.cons_append]
  gi_wp2_with fail
  refine ⟨trivial, ?_⟩
  refine (callsIn_wide.2 HW.out).mono ?_
  rintro e w1 ⟨rfl, hB1⟩
  have H1 := Aside0.mk (H0.out.step hB1)
  clear hB1
  have hc1 := H1.out.n
  gi_wp2_with fail
  refine ⟨trivial, ?_⟩
  refine (callsIn_wide.2 (HB.out _ H1.out.below)).mono ?_
  rintro e w2 ⟨rfl, hB2⟩
  have H2 := Aside0.mk (H1.out.step hB2)
  clear hB2 hc1
  obtain ⟨hr1, hr2⟩ := H2.out.res
  gi_wp2
  exact leave0 rfl rfl (World.cell?_setCell_same' _ _ _ (by rw [hr1]; rfl)) (H2.out.below.setCell (p := ⟨w.heap.size + 1, 0, none⟩) (by show w.heap.size ≤ w.heap.size + 1; omega) _)
/-- The loop's own boxes. -/
def cntOwn (S : Nat) (k : Nat) : Prop := k = S ∨ k = S + 1 ∨ k = S + 1 + 1
/-- The world in which the range begins. -/
structure CntAt (w : World) (row : Array Value) (S : Nat) (W : World) : Prop where
  law : Law2 w row W
  le : w.heap.size + 2 ≤ S
  size : W.heap.size = S + 1 + 1 + 1 + 1
  b0 : Box1 W S (.int .i64 0)
  b1 : Box1 W (S + 1) (.int .i64 0)
  b2 : Box1 W (S + 1 + 1) (.int .i64 0)
  wlk : ∀ j, W.cell? ⟨S + 1 + 1 + 1, j, none⟩ = row[j]?
theorem Box1.newAt (W : World) (v : Value) (t : TypeId) (n : Nat) (h : W.heap.size = n) : Box1 (W.alloc (.cells #[v] t)) n v := by subst h; exact Box1.new W v t
theorem Box1.alloc {W : World} {b : Nat} {v : Value} (h : Box1 W b v) (o : Obj) : Box1 (W.alloc o) b v := h.below ((Below.refl _ _).alloc (Nat.le_refl _) _)
theorem CntAt.of {w : World} {row : Array Value} {w2 : World} (h : Law2 w row w2) : CntAt w row w2.heap.size ((((w2.alloc (.cells #[.int .i64 0] 3)).alloc (.cells #[.int .i64 0] 3)).alloc (.cells #[.int .i64 0] 3)).alloc (.cells row 24)) := by
  have hb : Below w2.heap.size w2 ((((w2.alloc (.cells #[.int .i64 0] 3)).alloc (.cells #[.int .i64 0] 3)).alloc (.cells #[.int .i64 0] 3)).alloc (.cells row 24)) := ((((Below.refl _ w2).alloc (Nat.le_refl _) _).alloc (by simp) _).alloc (by simp; omega) _).alloc (by simp; omega) _
  have h3 : ((((w2.alloc (.cells #[.int .i64 0] 3)).alloc (.cells #[.int .i64 0] 3)).alloc (.cells #[.int .i64 0] 3))).heap.size = w2.heap.size + 1 + 1 + 1 := by simp
  refine ⟨h.step hb, h.res.lt, by simp, (((Box1.new w2 _ 3).alloc _).alloc _).alloc _, ((Box1.newAt (w2.alloc (.cells #[.int .i64 0] 3)) _ 3 _ (by simp)).alloc _).alloc _, (Box1.newAt ((w2.alloc (.cells #[.int .i64 0] 3)).alloc (.cells #[.int .i64 0] 3)) _ 3 _ (by simp)).alloc _, fun j => ?_⟩
  have := box_new (((w2.alloc (.cells #[.int .i64 0] 3)).alloc (.cells #[.int .i64 0] 3)).alloc (.cells #[.int .i64 0] 3)) row 24 j
  rw [h3] at this
  exact this
/-- What holds between two rounds. -/
def CntI (x : Nd) (S : Nat) (Wl : World) (pre : List Vis) (W : World) : Prop :=
  But (cntOwn S) Wl W ∧ Box1 W S (.int .i64 pre.length) ∧ Box1 W (S + 1) (.int .i64 (mx (fun v : Vis => v.path.length) pre)) ∧ Box1 W (S + 1 + 1) (.int .i64 (mx (fun v : Vis => lp x v.path) pre))
theorem CntI.own (x : Nd) (S : Nat) (Wl : World) : OwnFrom Wl.heap.size (CntI x S Wl) :=
  (But.own _ _).and ((Box1.own _ _ (fun pre : List Vis => .int .i64 pre.length)).and ((Box1.own _ _ (fun pre : List Vis => .int .i64 (mx (fun v : Vis => v.path.length) pre))).and (Box1.own _ _ (fun pre : List Vis => .int .i64 (mx (fun v : Vis => lp x v.path) pre)))))
theorem CntI.stays (x : Nd) (S : Nat) (Wl : World) : Stays (CntI x S Wl) :=
  (But.stays _ _).and ((Box1.stays _ (fun pre : List Vis => .int .i64 pre.length)).and ((Box1.stays _ (fun pre : List Vis => .int .i64 (mx (fun v : Vis => v.path.length) pre))).and (Box1.stays _ (fun pre : List Vis => .int .i64 (mx (fun v : Vis => lp x v.path) pre)))))
theorem CntI.start {w : World} {row : Array Value} {S : Nat} {Wl : World} {x : Nd} (h : CntAt w row S Wl) : CntI x S Wl [] Wl := ⟨But.refl _ _, h.b0, h.b1, h.b2⟩
/-- What holds in a round behind its two first stores. -/
structure CntR (S : Nat) (Wl W : World) (b n : Nat) (row rowm : Array Value) (pv : Value) (path : List Int) (v0 v1 v2 : Value) (W1 : World) : Prop where
  wl : But (cntOwn S) Wl W1
  w : But (cntOwn S) W W1
  ko : KeepsOthers W W1
  b0 : Box1 W1 S v0
  b1 : Box1 W1 (S + 1) v1
  b2 : Box1 W1 (S + 1 + 1) v2
  p : pathAt Wl.heap.size W1 pv path
  m : ∀ j, j < 4 → W1.cell? ⟨b, j, none⟩ = rowm[j]?
  n : ∀ j, W1.cell? ⟨n, j, none⟩ = row[j]?
  lt : b < W1.heap.size
theorem Box1.other {W : World} {b b' : Nat} {v u : Value} (h : Box1 W b v) (hne : b ≠ b') : Box1 (W.setCell ⟨b', 0, none⟩ u) b v :=
  ⟨(World.cell?_of_block (a := ⟨b, 0, none⟩) (Below.heap_setCell W ⟨b', 0, none⟩ u b hne)).trans h.1, by rw [World.frozen?_setCell]; exact h.2⟩
theorem CntR.of {S : Nat} {Wl W : World} {b n : Nat} {row : Array Value} {m0 m1 m2 m3 : Value} {pv : Value} {path : List Int} {o0 o1 v0 v1 v2 : Value}
    (hB : But (cntOwn S) Wl W) (h0 : Box1 W S o0) (h1 : Box1 W (S + 1) o1) (h2 : Box1 W (S + 1 + 1) v2) (hp : pathAt Wl.heap.size W pv path)
    (hb : Wl.heap.size ≤ b) (hS : S + 1 + 1 + 1 ≤ Wl.heap.size) (hn : n < S) (hm : ∀ j, j < 4 → W.cell? ⟨b, j, none⟩ = #[m0, m1, m2, m3][j]?) (hnn : ∀ j, Wl.cell? ⟨n, j, none⟩ = row[j]?) :
    CntR S Wl W b n row #[m0, m1, m2, m3] pv path v0 v1 v2 ((W.setCell ⟨S, 0, none⟩ v0).setCell ⟨S + 1, 0, none⟩ v1) := by
  have e1 : But (cntOwn S) W ((W.setCell ⟨S, 0, none⟩ v0).setCell ⟨S + 1, 0, none⟩ v1) := ((But.refl _ W).setCell _ _ (Or.inl rfl)).setCell _ _ (Or.inr (Or.inl rfl))
  have hlt : b < W.heap.size := World.block_lt_of_cell? W ⟨b, 0, none⟩ (hm 0 (by decide))
  have hno : ¬ cntOwn S b := by unfold cntOwn; omega
  refine ⟨hB.trans e1, e1, (KeepsOthers.setCell _ _ _).trans (KeepsOthers.setCell _ _ _), ?_, ?_, ?_, hp.keep (fun k e => by unfold cntOwn at e; omega) e1, fun j hj => (e1.cell hlt hno).trans (hm j hj), fun j => ?_, Nat.lt_of_lt_of_le hlt e1.size⟩
  · exact (h0.set v0).other (by omega)
  · exact (h1.other (b' := S) (u := v0) (by omega)).set v1
  · exact (h2.other (b' := S) (u := v0) (by omega)).other (by omega)
  · have h3 := (hB.trans e1).cell (b := n) (j := j) (by omega) (by unfold cntOwn; omega)
    exact h3.trans (hnn j)
theorem natMax (a b : Nat) : ((max a b : Nat) : Int) = max (a : Int) (b : Int) := by omega
theorem CntR.fin {x : Nd} {S : Nat} {Wl W W1 wr : World} {b n : Nat} {row rowm : Array Value} {pv : Value} {path : List Int} {pre : List Vis}
    (hR : CntR S Wl W b n row rowm pv path (.int .i64 (pre.length + 1)) (.int .i64 (max (mx (fun v : Vis => v.path.length) pre) path.length)) (.int .i64 (mx (fun v : Vis => lp x v.path) pre)) W1) (hB : Below W1.heap.size W1 wr) (v : Vis) (hv : v.path = path) :
    KeepsOthers W (wr.setCell ⟨S + 1 + 1, 0, none⟩ (.int .i64 (max (mx (fun v : Vis => lp x v.path) pre) (lp x path)))) ∧ But (cntOwn S) W (wr.setCell ⟨S + 1 + 1, 0, none⟩ (.int .i64 (max (mx (fun v : Vis => lp x v.path) pre) (lp x path)))) ∧ CntI x S Wl (pre ++ [v]) (wr.setCell ⟨S + 1 + 1, 0, none⟩ (.int .i64 (max (mx (fun v : Vis => lp x v.path) pre) (lp x path)))) := by
  subst hv
  refine ⟨(hR.ko.trans (KeepsOthers.of_below hB)).trans (KeepsOthers.setCell _ _ _), (hR.w.below hB).setCell _ _ (Or.inr (Or.inr rfl)), (hR.wl.below hB).setCell _ _ (Or.inr (Or.inr rfl)), ?_, ?_, ?_⟩
  · have h := (hR.b0.below hB).other (b' := S + 1 + 1) (u := (.int .i64 (max (mx (fun v : Vis => lp x v.path) pre) (lp x v.path)))) (by omega)
    rw [List.length_append]
    exact h
  · have h := (hR.b1.below hB).other (b' := S + 1 + 1) (u := (.int .i64 (max (mx (fun v : Vis => lp x v.path) pre) (lp x v.path)))) (by omega)
    rw [mx_snoc, natMax]
    exact h
  · have h := (hR.b2.below hB).set (.int .i64 (max (mx (fun v : Vis => lp x v.path) pre) (lp x v.path)))
    rw [mx_snoc, natMax]
    exact h
/-- What a box of a Bool holds. -/
def resB (W : World) (a : Addr) : Bool := match W.cell? a with
  | some (.bool b) => b
  | _ => false
/-- What is held while the law's last region runs. -/
structure CntF (w : World) (S D : Nat) (v0 v1 v2 : Value) (row : Array Value) (w' : World) : Prop where
  below : Below w.heap.size w w'
  le : w.heap.size + 2 ≤ S
  b0 : w'.cell? ⟨S, 0, none⟩ = some v0
  b1 : w'.cell? ⟨S + 1, 0, none⟩ = some v1
  b2 : w'.cell? ⟨S + 1 + 1, 0, none⟩ = some v2
  nb : ∀ j, w'.cell? ⟨w.heap.size, j, none⟩ = row[j]?
  res : ∃ b, Box1 w' (w.heap.size + 1) (.bool b)
  kd : w'.heap[D]? = some (.deferred (some []))
theorem CntF.drew {w : World} {S D : Nat} {v0 v1 v2 : Value} {row : Array Value} {w' : World} (h : CntF w S D v0 v1 v2 row w') : CntF w S D v0 v1 v2 row w'.drew := ⟨h.below.drew, h.le, h.b0, h.b1, h.b2, h.nb, h.res, h.kd⟩
theorem CntF.step {w : World} {S D : Nat} {v0 v1 v2 : Value} {row : Array Value} {w' w'' : World} (h : CntF w S D v0 v1 v2 row w') (hb : Below w'.heap.size w' w'') : CntF w S D v0 v1 v2 row w'' := by
  obtain ⟨b, hr⟩ := h.res
  have hl := hr.lt
  exact ⟨h.below.trans (hb.mono h.below.size), h.le, (hb.cell (World.block_lt_of_cell? _ _ h.b0)).trans h.b0, (hb.cell (World.block_lt_of_cell? _ _ h.b1)).trans h.b1, (hb.cell (World.block_lt_of_cell? _ _ h.b2)).trans h.b2, fun j => (hb.cell (p := ⟨w.heap.size, j, none⟩) (by show w.heap.size < _; omega)).trans (h.nb j), ⟨b, hr.below hb⟩, (hb.block D (Array.getElem?_eq_some_iff.1 h.kd).1).trans h.kd⟩
theorem CntF.set {w : World} {S D : Nat} {v0 v1 v2 : Value} {row : Array Value} {w' : World} (h : CntF w S D v0 v1 v2 row w') (b : Bool) : CntF w S D v0 v1 v2 row (w'.setCell ⟨w.heap.size + 1, 0, none⟩ (.bool b)) := by
  obtain ⟨b', hr⟩ := h.res
  have hle := h.le
  have ho : ∀ (k i : Nat), k ≠ w.heap.size + 1 → (w'.setCell ⟨w.heap.size + 1, 0, none⟩ (.bool b)).cell? ⟨k, i, none⟩ = w'.cell? ⟨k, i, none⟩ := fun k i hk => World.cell?_of_block (a := ⟨k, i, none⟩) (Below.heap_setCell _ _ _ _ hk)
  exact ⟨h.below.setCell (p := ⟨w.heap.size + 1, 0, none⟩) (by show w.heap.size ≤ w.heap.size + 1; omega) _, h.le, (ho _ _ (by omega)).trans h.b0, (ho _ _ (by omega)).trans h.b1, (ho _ _ (by omega)).trans h.b2, fun j => (ho _ _ (by omega)).trans (h.nb j), ⟨b, hr.set _⟩, (KeepsOthers.setCell _ _ _).same D _ h.kd rfl⟩
theorem CntF.resB {w : World} {S D : Nat} {v0 v1 v2 : Value} {row : Array Value} {w' : World} (h : CntF w S D v0 v1 v2 row w') : w'.cell? ⟨w.heap.size + 1, 0, none⟩ = some (.bool (resB w' ⟨w.heap.size + 1, 0, none⟩)) ∧ w'.frozen? ⟨w.heap.size + 1, 0, none⟩ = false := by
  obtain ⟨b, hr⟩ := h.res
  refine ⟨?_, hr.2⟩
  unfold Ha.resB
  rw [hr.1]
theorem cntAnd {w : World} {S D : Nat} {v0 v1 v2 : Value} {row : Array Value} {w' : World} (h : CntF w S D v0 v1 v2 row w') : (w'.cell? ⟨S, 0, none⟩ = some v0 ∧ w'.cell? ⟨S + 1, 0, none⟩ = some v1 ∧ w'.cell? ⟨S + 1 + 1, 0, none⟩ = some v2 ∧ (∀ j, w'.cell? ⟨w.heap.size, j, none⟩ = row[j]?) ∧ w'.cell? ⟨w.heap.size + 1, 0, none⟩ = some (.bool (resB w' ⟨w.heap.size + 1, 0, none⟩)) ∧ w'.frozen? ⟨w.heap.size + 1, 0, none⟩ = false) ∧ CntF w S D v0 v1 v2 row w' := ⟨⟨h.b0, h.b1, h.b2, h.nb, h.resB⟩, h⟩
theorem path_forms {x : Nd} {b : Nat} {W : World} {pv : Value} {p : List Int} (h : pathAt b W pv p) (hl : p.length ≤ 1000000) : ∃ PA cap, pv = .slice PA p.length cap ∧ p.length ≤ cap ∧ ∀ W' k, pathAt b W' (.slice PA p.length cap) p → k ≤ p.length → Kd.C (Kd.int .i64) W' PA (p.take k).length (p.take k) := by
  rcases Joins.ownsRow_forms h with ⟨rfl, h0⟩ | ⟨g, cap, rfl⟩
  · have : p = [] := List.eq_nil_of_length_eq_zero h0
    subst this
    exact ⟨none, 0, rfl, Nat.le_refl _, fun W' k _ _ => by rw [List.take_nil]; exact Kd.C_nil _ W'⟩
  · refine ⟨some ⟨g, 0, none⟩, cap, rfl, ?_, fun W' k h' hk => path_take h' hl k hk⟩
    rcases h.2 with ⟨h, _⟩ | ⟨g', cap', cur, h, _, _, hh, _⟩
    · cases h
    · simp only [Value.slice.injEq, Option.some.injEq, Addr.mk.injEq, and_true, true_and] at h
      rw [h.2]
      exact hh
theorem path_none {p : List Int} (h : p.length = 0) (W : World) (k : Nat) : Kd.C (Kd.int .i64) W none (p.take k).length (p.take k) := by
  have : p = [] := List.eq_nil_of_length_eq_zero h
  subst this
  rw [List.take_nil]
  exact Kd.C_nil _ W
theorem frozen_at (w : World) (cs : Array Value) (t : TypeId) (n j : Nat) (h : n = w.heap.size) : (w.alloc (.cells cs t)).drew.frozen? ⟨n, j, none⟩ = false := by subst h; exact frozen_new w cs t j
theorem cnt_step {x y m : Nd} {p : List Int} {k : Nat} (hk : k < p.length) (h1 : atN x (p.take k) = (y, true)) (h2 : atN y (p.drop k) = (m, true)) :
    ∃ z, atN x (p.take (k + 1)) = (z, true) ∧ atN z (p.drop (k + 1)) = (m, true) ∧ lp y (p.drop k) = (if loopB y.f0 then 1 else 0) + lp z (p.drop (k + 1)) := by
  rw [List.drop_eq_getElem_cons hk, atN] at h2
  by_cases hb : p[k] < 0 ∨ (y.f3.length : Int) ≤ p[k]
  · rw [if_pos hb] at h2
    have := congrArg Prod.snd h2
    cases this
  · rw [if_neg hb] at h2
    refine ⟨_, ?_, h2, ?_⟩
    · rw [List.take_succ_eq_append_getElem hk, atN_snoc _ _ _ _ h1, if_neg hb]
    · rw [List.drop_eq_getElem_cons hk, lp]
theorem cnt_last {y m : Nd} {p : List Int} {k : Nat} (hk : k = p.length) (h2 : atN y (p.drop k) = (m, true)) : y = m ∧ lp y (p.drop k) = (if loopB y.f0 then 1 else 0) := by
  subst hk
  rw [List.drop_length, atN] at h2
  rw [List.drop_length, lp]
  exact ⟨congrArg Prod.fst h2, rfl⟩
set_option maxHeartbeats 4000000 in
set_option maxRecDepth 100000 in
theorem lawCounts_main (x : Nd) (A : Option Addr) (c : Nat) (w : World) (hT : TabOk w) (hA : At w x A c) (hb : Ev fun k => ontimelaw12_Big.f k x.f0 x.f1 x.f2 x.f3 = some 0) (hs : szN x ≤ 500) (hd : dpN x ≤ 40) :
    Calls Tryd.prog 10 #[nodeV x A c] w fun e w' => e = .returned (.bool true) ∧ Below w.heap.size w w' := by
  have h0 := Law2.start w #[.int .u8 x.f0, .int .i64 x.f1, .string x.f2, .slice A x.f3.length c]
  have HW := Aside0.mk (awake ((w.alloc (.cells #[.int .u8 x.f0, .int .i64 x.f1, .string x.f2, .slice A x.f3.length c] 24)).alloc (.cells #[.bool false] 4)) (hT.below h0.below))
  have HB := Aside0.mk (fun w' (h : Below w.heap.size w w') => big0 hb (hA.below h))
  have HA := Aside0.mk hA
  have H0 := Aside0.mk h0
  clear hb hA hT h0
  refine (callsIn_wide (n := 5)).1 ?_
  refine callsIn_of_wp_marks Tryd.func10 rfl trivial ?_ rfl
  simp only [Tryd.ntmps10, List.size_toArray, List.length_cons, List.length_nil, Nat.reduceAdd, Nat.reduceSub, Array.replicate_succ, Array.replicate_zero, List.push_toArray, List.append_toArray, List.nil_append, List.cons_append]
  gi_wp2_with fail
  refine ⟨trivial, ?_⟩
  refine (callsIn_wide.2 HW.out).mono ?_
  rintro e w1 ⟨rfl, hB1⟩
  have H1 := Aside0.mk (H0.out.step hB1)
  clear hB1
  have hc1 := H1.out.n
  gi_wp2_with fail
  refine ⟨trivial, ?_⟩
  refine (callsIn_wide.2 (HB.out _ H1.out.below)).mono ?_
  rintro e w2 ⟨rfl, hB2⟩
  have H2 := Aside0.mk (H1.out.step hB2)
  clear hB2 hc1
  have hl2 : Below w2.heap.size w2 (((w2.alloc (.cells #[.int .i64 0] 3)).alloc (.cells #[.int .i64 0] 3)).alloc (.cells #[.int .i64 0] 3)) := (((Below.refl _ w2).alloc (Nat.le_refl _) _).alloc (by simp) _).alloc (by simp; omega) _
  have hc2 := (H2.out.step hl2).n
  clear hl2
  gi_wp2_with (first
    | ((try refine ⟨trivial, ?_⟩); (try refine ⟨fun _ => by omega, ?_⟩); gi_at_call 36; refine (callsIn_wide.2 (WalkF x A c _)).mono ?_; rintro e w3 ⟨rfl, rfl⟩)
    | fail)
  refine at_world (CntAt w #[.int .u8 x.f0, .int .i64 x.f1, .string x.f2, .slice A x.f3.length c] w2.heap.size) (CntAt.of H2.out) (fun Wl hW => ?_)
  clear hc2 HW HB H0 H1
  have H2 := Aside0.mk H2.out.below
  have hS := hW.le
  generalize w2.heap.size = S at *
  have hsz := hW.size
  have hAt : TreeAt (But (cntOwn S) Wl) x A c := (treeAt_of w _ x A c (Nat.le_refl _) HA.out).mono (fun W hW' => hW.law.below.trans (hW'.under (fun k hk e => by unfold cntOwn at e; omega) (by omega)))
  have HTX := Aside0.mk hAt
  refine range_known2 (n := 5) (by omega) (gf := 89) (lb := #[.pointer (some ⟨S + 1 + 1 + 1, 0, none⟩)]) rfl enter_Walk1
    (Walk_known (But (cntOwn S) Wl) (cntOwn S) Wl (S + 1 + 1 + 1) x A c (But.refl _ _) (fun _ _ h h' => h.below h') (fun _ _ h h' => h.owned h') (fun k e => by unfold cntOwn at e; omega) hAt hW.wlk (by omega) (by omega)) (fun _ => rfl) (fun x => Kn_own _ _ _ x)
    (CntI x S Wl) (fun _ _ _ => False) (CntI.own x S Wl) (CntI.stays x S Wl) (fun _ _ _ _ _ hs _ _ => hs) (fun _ _ _ _ hs _ => hs) (CntI.start hW)
    (fun v a' W => ∃ b, Wl.heap.size ≤ b ∧ (∀ j, j < 4 → W.cell? ⟨b, j, none⟩ = #[Value.int .u8 v.node.f0, .int .i64 v.node.f1, .string v.node.f2, .slice v.nA v.node.f3.length v.nc][j]?) ∧ a' = { tmps := #[nodeV x A c, .pointer (some ⟨w.heap.size, 0, none⟩), .pointer (some ⟨w.heap.size + 1, 0, none⟩), .pointer (some ⟨S, 0, none⟩), .pointer (some ⟨S + 1, 0, none⟩), .pointer (some ⟨S + 1 + 1, 0, none⟩), v.pv, .pointer (some ⟨b, 0, none⟩), undef, undef, undef, undef, .bool true, .bool false, .agg #[.int .u8 x.f0, .int .i64 x.f1, .string x.f2, .slice A x.f3.length c], .int .i64 0, .bool false, .agg #[.int .u8 x.f0, .int .i64 x.f1, .string x.f2, .slice A x.f3.length c], .func (.func 89) #[] #[.pointer (some ⟨S + 1 + 1 + 1, 0, none⟩)], v.pv, nodeV v.node v.nA v.nc, undef, undef, undef, undef, undef, undef, undef, undef, undef, undef, undef, undef, undef, undef, undef, undef, undef, undef, undef, undef, undef, undef, undef, undef, undef, undef, undef, undef, undef, undef, undef, undef, undef, undef, undef, undef, undef, undef, undef, undef, undef, undef, undef, undef, undef, undef, undef, undef, undef, undef, undef, undef, undef, undef, undef, undef, undef, undef, undef, undef, undef, undef, undef, undef], defers := [] }) ?ax ?assign ?body ?done ?stop
  case ax =>
    rintro v a' s W W' row ⟨b, hb, hc, rfl⟩ hg hr
    refine ⟨b, hb, fun j hj => ?_, rfl⟩
    obtain ⟨u, hu⟩ : ∃ u, #[Value.int .u8 v.node.f0, .int .i64 v.node.f1, .string v.node.f2, .slice v.nA v.node.f3.length v.nc][j]? = some u := ⟨_, Array.getElem?_eq_getElem (by simpa using hj)⟩
    rw [hu]
    exact cell_kept ((hc j hj).trans hu) hg (fun r e => (hr r e).2)
  case assign =>
    intro l pre v W K hi hkn hWs hK
    simp only [Vis.enc]
    gi_wp2
    have hb : Below W.heap.size W (W.alloc (.cells #[.int .u8 v.node.f0, .int .i64 v.node.f1, .string v.node.f2, .slice v.nA v.node.f3.length v.nc] 24)) := (Below.refl _ _).alloc (Nat.le_refl _) _
    exact hK _ _ (KeepsOthers.of_below hb) (But.of_below hb) (CntI.stays x S Wl pre _ _ hi hb) ⟨hkn.1.below hb, hkn.2⟩ ⟨_, Nat.le_trans (Nat.le_add_right _ 2) hWs, fun j _ => box_new _ _ _ j, rfl⟩
  case body =>
    rintro l pre v a' W hI hkn ⟨b, hb, hcb, rfl⟩ hsp hWs
    have hmem : (v.path, v.node) ∈ wkN [] x := hsp.subset (by rw [List.map_append]; exact List.mem_append_right _ (List.mem_singleton.2 rfl))
    have hat := wk_at0 hmem
    have hpl : v.path.length + 1 ≤ dpN x := pth_short x v.path (by rw [← wk_path0]; exact List.mem_map.2 ⟨_, hmem, rfl⟩)
    have hpre : pre.length + 1 ≤ szN x := by
      have h1 := List.IsPrefix.length_le hsp
      rw [wk_len] at h1
      simpa using h1
    obtain ⟨path, pv, node, nA, nc⟩ := v
    have hp := hkn.1
    dsimp only at *
    obtain ⟨hBu, ⟨c0, f0⟩, ⟨c1, f1⟩, ⟨c2, f2⟩⟩ := hI
    have HBU := Aside0.mk hBu
    have HKN := Aside0.mk hkn
    have HSP := Aside0.mk hsp
    have HCB := Aside0.mk hcb
    have HAT := Aside0.mk hat
    have HMEM := Aside0.mk hmem
    clear hkn hsp hBu hmem hat hcb
    have HC2 := Aside0.mk (show Box1 W (S + 1 + 1) _ from ⟨c2, f2⟩)
    have HK0 := Aside0.mk (show Box1 W S _ from ⟨c0, f0⟩)
    have HK1 := Aside0.mk (show Box1 W (S + 1) _ from ⟨c1, f1⟩)
    have HN0 := Aside0.mk (fun j => (hW.law.n j : Wl.cell? ⟨w.heap.size, j, none⟩ = #[.int .u8 x.f0, .int .i64 x.f1, .string x.f2, .slice A x.f3.length c][j]?))
    obtain ⟨PA, cap, rfl, hcap, hPT⟩ := path_forms (x := x) hp (by omega)
    have HP := Aside0.mk hp
    clear hp
    clear c2
    gi_wp2
    refine at_world (CntR S Wl W b w.heap.size #[.int .u8 x.f0, .int .i64 x.f1, .string x.f2, .slice A x.f3.length c] #[Value.int .u8 node.f0, .int .i64 node.f1, .string node.f2, .slice nA node.f3.length nc] (.slice (PA) path.length cap) path (.int .i64 (pre.length + 1)) (.int .i64 (max (mx (fun v : Vis => v.path.length) pre) path.length)) (.int .i64 (mx (fun v : Vis => lp x v.path) pre))) (CntR.of HBU.out HK0.out HK1.out HC2.out HKN.out.1 hb (by omega) (by omega) HCB.out HN0.out) (fun W1 hR => ?_)
    have HR := Aside0.mk hR
    have HN : Aside0 (∀ w', Below W1.heap.size W1 w' → ∀ j, w'.cell? ⟨w.heap.size, j, none⟩ = #[.int .u8 x.f0, .int .i64 x.f1, .string x.f2, .slice A x.f3.length c][j]?) := ⟨fun w' h j => (h.cell (p := ⟨w.heap.size, j, none⟩) (by have := hR.wl.size; show w.heap.size < _; omega)).trans (hR.n j)⟩
    have HM : Aside0 (∀ w', Below W1.heap.size W1 w' → ∀ j, j < 4 → w'.cell? ⟨b, j, none⟩ = #[Value.int .u8 node.f0, .int .i64 node.f1, .string node.f2, .slice nA node.f3.length nc][j]?) := ⟨fun w' h j hj => (h.cell (p := ⟨b, j, none⟩) (hR.lt)).trans (hR.m j hj)⟩
    clear hR
    gi_loopw [8, 9] (fun v8 v9 wr => ∃ (k lo : Nat) (y : Nd), v8 = .int .i64 lo ∧ v9 = .int .i64 k ∧ Aside0 (Below W1.heap.size W1 wr) ∧ Aside0 ((k ≤ path.length ∧ atN x (path.take k) = (y, true) ∧ atN y (path.drop k) = (node, true) ∧ lo + lp y (path.drop k) = lp x path ∧ lo ≤ k) ∨ (k = path.length + 1 ∧ lo = lp x path))) (fun _ v _ => path.length + 1 - (intOf v).toNat)
    case atStart => exact ⟨0, 0, x, rfl, rfl, ⟨Below.refl _ _⟩, ⟨Or.inl ⟨Nat.zero_le _, by simp [atN], HAT.out, by simp, Nat.le_refl _⟩⟩⟩
    case round =>
      obtain ⟨k, lo, y, rfl, rfl, HBR, HL⟩ := hrel
      by_cases hk : k ≤ path.length
      · have hl1 : path.length ≤ 1000000 := by omega
        have HAC : Aside0 (∀ w', Below W1.heap.size W1 w' → Calls Tryd.prog 41 #[nodeV x A c, .slice (PA) k cap] w' fun e w'' => ∃ A' c', e = .returned (.tuple #[nodeV y A' c', .bool true]) ∧ TreeAt (But (cntOwn S) Wl) y A' c' ∧ Below w'.heap.size w' w'') := ⟨fun w' h => by
          have h2 := at_aT (But (cntOwn S) Wl) x A c (PA) cap (path.take k) w' (HR.out.wl.below h) HTX.out (hPT w' k (HR.out.p.below h) hk)
          rcases HL.out with ⟨_, h3, _⟩ | ⟨h3, _⟩
          · rw [h3, List.length_take, Nat.min_eq_left hk] at h2
            exact h2
          · omega⟩
        gi_wp2
        refine region_round_held (fun w' => Below W1.heap.size W1 w') rfl (by kernel_rfl) HBR.out.drew (fun hHeld => ?_)
        refine held_take 0 (v := _) rfl (by kernel_rfl) (by kernel_rfl) (by kernel_rfl) (by rfl) (by assumption) (fun w' hSw => by
          have hn := HN.out w' hSw
          go_simp
          try with_reducible rfl) ?_
        try simp only [Act.put, List.setIfInBounds_toArray, List.set_cons_zero, List.set_cons_succ]
        refine held_take 1 (v := _) rfl (by kernel_rfl) (by kernel_rfl) (by kernel_rfl) (by rfl) (by assumption) (fun w' hSw => by
          skip
          go_simp
          try with_reducible rfl) ?_
        try simp only [Act.put, List.setIfInBounds_toArray, List.set_cons_zero, List.set_cons_succ]
        refine held_take 2 (v := _) rfl (by kernel_rfl) (by kernel_rfl) (by kernel_rfl) (by rfl) (by assumption) (fun w' hSw => by
          skip
          go_simp
          try with_reducible rfl) ?_
        try simp only [Act.put, List.setIfInBounds_toArray, List.set_cons_zero, List.set_cons_succ]
        refine held_take 3 (v := _) rfl (by kernel_rfl) (by kernel_rfl) (by kernel_rfl) (by rfl) (by assumption) (fun w' hSw => by
          have hkc : k ≤ cap := Nat.le_trans hk hcap
          go_simp
          try with_reducible rfl) ?_
        try simp only [Act.put, List.setIfInBounds_toArray, List.set_cons_zero, List.set_cons_succ]
        refine wpAnyH_ready (rs := [4, 8]) (by kernel_rfl) (by simp) ?_
        refine held_cons rfl (by rfl) (fun K hK => ?_) ?_
        · unfold Oper.wp
          go_simp
          refine (HAC.out _ (by assumption)).mono ?_
          rintro e w4 ⟨A4, c4, rfl, hA4, hB4⟩
          have HA4 := Aside0.mk hA4
          clear hA4
          refine hK.out _ _ (hHeld.trans (hB4.mono hHeld.size)) (fun hHeld => ?_)
          clear hK K
          try simp only [Act.put, List.setIfInBounds_toArray, List.set_cons_zero, List.set_cons_succ]
          have hH4 := hHeld
          refine held_take 5 (v := _) rfl (by kernel_rfl) (by kernel_rfl) (by kernel_rfl) (by rfl) (by assumption) (fun w' hSw => by
            skip
            go_simp
            try with_reducible rfl) ?_
          try simp only [Act.put, List.setIfInBounds_toArray, List.set_cons_zero, List.set_cons_succ]
          refine held_take 6 (v := _) rfl (by kernel_rfl) (by kernel_rfl) (by kernel_rfl) (by rfl) (by assumption) (fun w' hSw => by
            skip
            go_simp
            try with_reducible rfl) ?_
          try simp only [Act.put, List.setIfInBounds_toArray, List.set_cons_zero, List.set_cons_succ]
          refine held_take 7 (v := _) rfl (by kernel_rfl) (by kernel_rfl) (by kernel_rfl) (by rfl) (by assumption) (fun w' hSw => by
            skip
            go_simp
            try with_reducible rfl) ?_
          try simp only [Act.put, List.setIfInBounds_toArray, List.set_cons_zero, List.set_cons_succ]
          refine wpAnyH_ready (rs := [8]) (by kernel_rfl) (by simp) ?_
          refine held_cons rfl (by rfl) (fun K hK => ?_) ?_
          · unfold Oper.wp
            go_simp
            refine hK.out _ _ (hHeld.alloc hHeld.size _) (fun hHeld => ?_)
            clear hK K
            try simp only [Act.put, List.setIfInBounds_toArray, List.set_cons_zero, List.set_cons_succ]
            refine wpAnyH_ready (rs := [9]) (by kernel_rfl) (by simp) ?_
            refine held_cons rfl (by rfl) (fun K hK => ?_) ?_
            · unfold Oper.wp
              go_simp
              refine hK.out _ _ (hH4.alloc hH4.size _) (fun hHeld => ?_)
              clear hK K
              try simp only [Act.put, List.setIfInBounds_toArray, List.set_cons_zero, List.set_cons_succ]
              refine held_take 10 (v := _) rfl (by kernel_rfl) (by kernel_rfl) (by kernel_rfl) (by rfl) (by assumption) (fun w' hSw => by
                skip
                go_simp
                try with_reducible rfl) ?_
              try simp only [Act.put, List.setIfInBounds_toArray, List.set_cons_zero, List.set_cons_succ]
              refine wpAnyH_done (by kernel_rfl) ?_ _
              refine cutR_world (fun W' => Below W1.heap.size W1 W' ∧ ∀ j, W'.cell? ⟨w4.heap.size, j, none⟩ = #[Value.int .u8 y.f0, .int .i64 y.f1, .string y.f2, .slice A4 y.f3.length c4][j]?) ?pr (fun W2 hW2 => ?_)
              case pr => exact ⟨hHeld, fun j => box_new _ _ _ j⟩
              obtain ⟨hW2, hcb⟩ := hW2
              have HA4' := Aside0.mk HA4.out
              have HW2 := Aside0.mk hW2
              have HCB2 := Aside0.mk hcb
              clear hW2
              by_cases hkl : k < path.length
              · have hlo : lo ≤ k := by
                  rcases HL.out with ⟨_, h3, h4, h5, h6⟩ | ⟨h3, _⟩
                  · exact h6
                  · omega
                have HST := Aside0.mk (show ∃ z, atN x (path.take (k + 1)) = (z, true) ∧ atN z (path.drop (k + 1)) = (node, true) ∧ lo + (if loopB y.f0 then 1 else 0) + lp z (path.drop (k + 1)) = lp x path by
                  rcases HL.out with ⟨_, h3, h4, h5, h6⟩ | ⟨h3, _⟩
                  · obtain ⟨z, e1, e2, e3⟩ := cnt_step hkl h3 h4
                    exact ⟨z, e1, e2, by omega⟩
                  · omega)
                have hne : ((k : Int) == (path.length : Int)) = false := by simp; omega
                by_cases h42 : y.f0 = 42
                · have e42 : (y.f0 == 42) = true := by simp [h42]
                  gi_wp2
                  refine ⟨trivial, ?_⟩
                  gi_wp2
                  case roundEnd =>
                    refine ⟨?_, by simp [intOf]; omega⟩
                    have hB : loopB y.f0 = true := by simp [loopB, *]
                    have hS := HST.out
                    rw [hB] at hS
                    obtain ⟨z, e1, e2, e3⟩ := hS; exact ⟨k + 1, lo + 1, z, by go_num, by go_num, HW2, ⟨Or.inl ⟨by omega, e1, e2, by simpa using e3, by omega⟩⟩⟩
                · have e42 : (y.f0 == 42) = false := by simp [h42]
                  by_cases h43 : y.f0 = 43
                  · have e43 : (y.f0 == 43) = true := by simp [h43]
                    gi_wp2
                    refine ⟨trivial, ?_⟩
                    gi_wp2
                    case roundEnd =>
                      refine ⟨?_, by simp [intOf]; omega⟩
                      have hB : loopB y.f0 = true := by simp [loopB, *]
                      have hS := HST.out
                      rw [hB] at hS
                      obtain ⟨z, e1, e2, e3⟩ := hS; exact ⟨k + 1, lo + 1, z, by go_num, by go_num, HW2, ⟨Or.inl ⟨by omega, e1, e2, by simpa using e3, by omega⟩⟩⟩
                  · have e43 : (y.f0 == 43) = false := by simp [h43]
                    gi_wp2
                    refine ⟨trivial, ?_⟩
                    gi_wp2
                    case roundEnd =>
                      refine ⟨?_, by simp [intOf]; omega⟩
                      have hB : loopB y.f0 = false := by simp [loopB, *]
                      have hS := HST.out
                      rw [hB] at hS
                      obtain ⟨z, e1, e2, e3⟩ := hS; exact ⟨k + 1, lo + 0, z, by go_num, by go_num, HW2, ⟨Or.inl ⟨by omega, e1, e2, by simpa using e3, by omega⟩⟩⟩
              · have hlo : lo ≤ k := by
                  rcases HL.out with ⟨_, h3, h4, h5, h6⟩ | ⟨h3, _⟩
                  · exact h6
                  · omega
                have HST := Aside0.mk (show y = node ∧ lo + (if loopB y.f0 then 1 else 0) = lp x path by
                  rcases HL.out with ⟨_, h3, h4, h5, h6⟩ | ⟨h3, _⟩
                  · obtain ⟨e1, e2⟩ := cnt_last (by omega) h4
                    exact ⟨e1, by omega⟩
                  · omega)
                have hne : ((k : Int) == (path.length : Int)) = true := by simp; omega
                have hcm := fun j (hj : j < 4) => HM.out W2 HW2.out j hj
                have hm0 := hcm 0 (by decide)
                have hm1 := hcm 1 (by decide)
                have hm2 := hcm 2 (by decide)
                have hm3 := hcm 3 (by decide)
                clear hcm
                gi_wp2_with fail
                refine ⟨trivial, ?_⟩
                refine (callsIn_wide.2 (equal_n _ y node A4 nA c4 nc W2 (Nat.le_refl _) (HA4'.out.at (HR.out.wl.below HW2.out)) (HKN.out.2.at (HR.out.wl.below HW2.out)))).mono ?_
                rintro e W3 ⟨rfl, hB3⟩
                have heq : eqN y node = true := by rw [HST.out.1]; exact eqN_refl _
                rw [heq]
                have HW3 := Aside0.mk (HW2.out.trans (hB3.mono HW2.out.size))
                have hlt5 := World.block_lt_of_cell? W2 _ ((hcb 0).trans rfl)
                have hcb3 := box_keep hB3 hlt5 hcb
                clear hB3 heq hm0 hm1 hm2 hm3 hcb
                by_cases h42 : y.f0 = 42
                · have e42 : (y.f0 == 42) = true := by simp [h42]
                  gi_wp2
                  case roundEnd =>
                    refine ⟨?_, by simp [intOf]; omega⟩
                    have hB : loopB y.f0 = true := by simp [loopB, *]
                    have hS := HST.out
                    rw [hB] at hS
                    exact ⟨k + 1, lo + 1, y, by go_num, by go_num, HW3, ⟨Or.inr ⟨by omega, by simpa using hS.2⟩⟩⟩
                · have e42 : (y.f0 == 42) = false := by simp [h42]
                  by_cases h43 : y.f0 = 43
                  · have e43 : (y.f0 == 43) = true := by simp [h43]
                    gi_wp2
                    case roundEnd =>
                      refine ⟨?_, by simp [intOf]; omega⟩
                      have hB : loopB y.f0 = true := by simp [loopB, *]
                      have hS := HST.out
                      rw [hB] at hS
                      exact ⟨k + 1, lo + 1, y, by go_num, by go_num, HW3, ⟨Or.inr ⟨by omega, by simpa using hS.2⟩⟩⟩
                  · have e43 : (y.f0 == 43) = false := by simp [h43]
                    gi_wp2
                    case roundEnd =>
                      refine ⟨?_, by simp [intOf]; omega⟩
                      have hB : loopB y.f0 = false := by simp [loopB, *]
                      have hS := HST.out
                      rw [hB] at hS
                      exact ⟨k + 1, lo + 0, y, by go_num, by go_num, HW3, ⟨Or.inr ⟨by omega, by simpa using hS.2⟩⟩⟩

            exact AllReadyH.nil

          exact AllReadyH.nil

        refine held_cons rfl (by rfl) (fun K hK => ?_) ?_
        · unfold Oper.wp
          go_simp
          refine hK.out _ _ (hHeld.alloc hHeld.size _) (fun hHeld => ?_)
          clear hK K
          try simp only [Act.put, List.setIfInBounds_toArray, List.set_cons_zero, List.set_cons_succ]
          refine wpAnyH_ready (rs := [4]) (by kernel_rfl) (by simp) ?_
          refine held_cons rfl (by rfl) (fun K hK => ?_) ?_
          · unfold Oper.wp
            go_simp
            refine (HAC.out _ (by assumption)).mono ?_
            rintro e w4 ⟨A4, c4, rfl, hA4, hB4⟩
            have HA4 := Aside0.mk hA4
            clear hA4
            refine hK.out _ _ (hHeld.trans (hB4.mono hHeld.size)) (fun hHeld => ?_)
            clear hK K
            try simp only [Act.put, List.setIfInBounds_toArray, List.set_cons_zero, List.set_cons_succ]
            refine held_take 5 (v := _) rfl (by kernel_rfl) (by kernel_rfl) (by kernel_rfl) (by rfl) (by assumption) (fun w' hSw => by
              skip
              go_simp
              try with_reducible rfl) ?_
            try simp only [Act.put, List.setIfInBounds_toArray, List.set_cons_zero, List.set_cons_succ]
            refine held_take 6 (v := _) rfl (by kernel_rfl) (by kernel_rfl) (by kernel_rfl) (by rfl) (by assumption) (fun w' hSw => by
              skip
              go_simp
              try with_reducible rfl) ?_
            try simp only [Act.put, List.setIfInBounds_toArray, List.set_cons_zero, List.set_cons_succ]
            refine held_take 7 (v := _) rfl (by kernel_rfl) (by kernel_rfl) (by kernel_rfl) (by rfl) (by assumption) (fun w' hSw => by
              skip
              go_simp
              try with_reducible rfl) ?_
            try simp only [Act.put, List.setIfInBounds_toArray, List.set_cons_zero, List.set_cons_succ]
            refine wpAnyH_ready (rs := [9]) (by kernel_rfl) (by simp) ?_
            refine held_cons rfl (by rfl) (fun K hK => ?_) ?_
            · unfold Oper.wp
              have hz := box_keep hB4 (by simp) (fun j => box_at wr #[.int .u8 0, .int .i64 0, .string ⟨#[]⟩, .slice none 0 0] 24 wr.heap.size j rfl)
              have hzf : ∀ j, w4.frozen? ⟨wr.heap.size, j, none⟩ = false := fun j => (hB4.frozen (p := ⟨wr.heap.size, j, none⟩) (by simp)).trans (frozen_at wr #[.int .u8 0, .int .i64 0, .string ⟨#[]⟩, .slice none 0 0] 24 wr.heap.size j rfl)
              go_simp
              refine hK.out _ _ (hHeld.trans (set4_below wr.heap.size HBR.out.size _ _ _ _)) (fun hHeld => ?_)
              clear hK K
              try simp only [Act.put, List.setIfInBounds_toArray, List.set_cons_zero, List.set_cons_succ]
              refine held_take 10 (v := _) rfl (by kernel_rfl) (by kernel_rfl) (by kernel_rfl) (by rfl) (by assumption) (fun w' hSw => by
                skip
                go_simp
                try with_reducible rfl) ?_
              try simp only [Act.put, List.setIfInBounds_toArray, List.set_cons_zero, List.set_cons_succ]
              refine wpAnyH_done (by kernel_rfl) ?_ _
              refine cutR_world (fun W' => Below W1.heap.size W1 W' ∧ ∀ j, W'.cell? ⟨wr.heap.size, j, none⟩ = #[Value.int .u8 y.f0, .int .i64 y.f1, .string y.f2, .slice A4 y.f3.length c4][j]?) ?pr (fun W2 hW2 => ?_)
              case pr => exact ⟨hHeld, fun j => set4 w4 wr.heap.size (box_keep hB4 (by simp) (fun j => box_at wr #[.int .u8 0, .int .i64 0, .string ⟨#[]⟩, .slice none 0 0] 24 wr.heap.size j rfl)) _ _ _ _ j⟩
              obtain ⟨hW2, hcb⟩ := hW2
              have HA4' := Aside0.mk HA4.out
              have HW2 := Aside0.mk hW2
              have HCB2 := Aside0.mk hcb
              clear hW2
              by_cases hkl : k < path.length
              · have hlo : lo ≤ k := by
                  rcases HL.out with ⟨_, h3, h4, h5, h6⟩ | ⟨h3, _⟩
                  · exact h6
                  · omega
                have HST := Aside0.mk (show ∃ z, atN x (path.take (k + 1)) = (z, true) ∧ atN z (path.drop (k + 1)) = (node, true) ∧ lo + (if loopB y.f0 then 1 else 0) + lp z (path.drop (k + 1)) = lp x path by
                  rcases HL.out with ⟨_, h3, h4, h5, h6⟩ | ⟨h3, _⟩
                  · obtain ⟨z, e1, e2, e3⟩ := cnt_step hkl h3 h4
                    exact ⟨z, e1, e2, by omega⟩
                  · omega)
                have hne : ((k : Int) == (path.length : Int)) = false := by simp; omega
                by_cases h42 : y.f0 = 42
                · have e42 : (y.f0 == 42) = true := by simp [h42]
                  gi_wp2
                  refine ⟨trivial, ?_⟩
                  gi_wp2
                  case roundEnd =>
                    refine ⟨?_, by simp [intOf]; omega⟩
                    have hB : loopB y.f0 = true := by simp [loopB, *]
                    have hS := HST.out
                    rw [hB] at hS
                    obtain ⟨z, e1, e2, e3⟩ := hS; exact ⟨k + 1, lo + 1, z, by go_num, by go_num, HW2, ⟨Or.inl ⟨by omega, e1, e2, by simpa using e3, by omega⟩⟩⟩
                · have e42 : (y.f0 == 42) = false := by simp [h42]
                  by_cases h43 : y.f0 = 43
                  · have e43 : (y.f0 == 43) = true := by simp [h43]
                    gi_wp2
                    refine ⟨trivial, ?_⟩
                    gi_wp2
                    case roundEnd =>
                      refine ⟨?_, by simp [intOf]; omega⟩
                      have hB : loopB y.f0 = true := by simp [loopB, *]
                      have hS := HST.out
                      rw [hB] at hS
                      obtain ⟨z, e1, e2, e3⟩ := hS; exact ⟨k + 1, lo + 1, z, by go_num, by go_num, HW2, ⟨Or.inl ⟨by omega, e1, e2, by simpa using e3, by omega⟩⟩⟩
                  · have e43 : (y.f0 == 43) = false := by simp [h43]
                    gi_wp2
                    refine ⟨trivial, ?_⟩
                    gi_wp2
                    case roundEnd =>
                      refine ⟨?_, by simp [intOf]; omega⟩
                      have hB : loopB y.f0 = false := by simp [loopB, *]
                      have hS := HST.out
                      rw [hB] at hS
                      obtain ⟨z, e1, e2, e3⟩ := hS; exact ⟨k + 1, lo + 0, z, by go_num, by go_num, HW2, ⟨Or.inl ⟨by omega, e1, e2, by simpa using e3, by omega⟩⟩⟩
              · have hlo : lo ≤ k := by
                  rcases HL.out with ⟨_, h3, h4, h5, h6⟩ | ⟨h3, _⟩
                  · exact h6
                  · omega
                have HST := Aside0.mk (show y = node ∧ lo + (if loopB y.f0 then 1 else 0) = lp x path by
                  rcases HL.out with ⟨_, h3, h4, h5, h6⟩ | ⟨h3, _⟩
                  · obtain ⟨e1, e2⟩ := cnt_last (by omega) h4
                    exact ⟨e1, by omega⟩
                  · omega)
                have hne : ((k : Int) == (path.length : Int)) = true := by simp; omega
                have hcm := fun j (hj : j < 4) => HM.out W2 HW2.out j hj
                have hm0 := hcm 0 (by decide)
                have hm1 := hcm 1 (by decide)
                have hm2 := hcm 2 (by decide)
                have hm3 := hcm 3 (by decide)
                clear hcm
                gi_wp2_with fail
                refine ⟨trivial, ?_⟩
                refine (callsIn_wide.2 (equal_n _ y node A4 nA c4 nc W2 (Nat.le_refl _) (HA4'.out.at (HR.out.wl.below HW2.out)) (HKN.out.2.at (HR.out.wl.below HW2.out)))).mono ?_
                rintro e W3 ⟨rfl, hB3⟩
                have heq : eqN y node = true := by rw [HST.out.1]; exact eqN_refl _
                rw [heq]
                have HW3 := Aside0.mk (HW2.out.trans (hB3.mono HW2.out.size))
                have hlt5 := World.block_lt_of_cell? W2 _ ((hcb 0).trans rfl)
                have hcb3 := box_keep hB3 hlt5 hcb
                clear hB3 heq hm0 hm1 hm2 hm3 hcb
                by_cases h42 : y.f0 = 42
                · have e42 : (y.f0 == 42) = true := by simp [h42]
                  gi_wp2
                  case roundEnd =>
                    refine ⟨?_, by simp [intOf]; omega⟩
                    have hB : loopB y.f0 = true := by simp [loopB, *]
                    have hS := HST.out
                    rw [hB] at hS
                    exact ⟨k + 1, lo + 1, y, by go_num, by go_num, HW3, ⟨Or.inr ⟨by omega, by simpa using hS.2⟩⟩⟩
                · have e42 : (y.f0 == 42) = false := by simp [h42]
                  by_cases h43 : y.f0 = 43
                  · have e43 : (y.f0 == 43) = true := by simp [h43]
                    gi_wp2
                    case roundEnd =>
                      refine ⟨?_, by simp [intOf]; omega⟩
                      have hB : loopB y.f0 = true := by simp [loopB, *]
                      have hS := HST.out
                      rw [hB] at hS
                      exact ⟨k + 1, lo + 1, y, by go_num, by go_num, HW3, ⟨Or.inr ⟨by omega, by simpa using hS.2⟩⟩⟩
                  · have e43 : (y.f0 == 43) = false := by simp [h43]
                    gi_wp2
                    case roundEnd =>
                      refine ⟨?_, by simp [intOf]; omega⟩
                      have hB : loopB y.f0 = false := by simp [loopB, *]
                      have hS := HST.out
                      rw [hB] at hS
                      exact ⟨k + 1, lo + 0, y, by go_num, by go_num, HW3, ⟨Or.inr ⟨by omega, by simpa using hS.2⟩⟩⟩

            exact AllReadyH.nil

          exact AllReadyH.nil

        exact AllReadyH.nil
      · have hlo : lo = lp x path := by
          rcases HL.out with ⟨h3, _⟩ | ⟨_, h3⟩
          · omega
          · exact h3
        have hke : k = path.length + 1 := by
          rcases HL.out with ⟨h3, _⟩ | ⟨h3, _⟩
          · omega
          · exact h3
        subst hke
        obtain ⟨hr2, hf2⟩ := HR.out.b2.below HBR.out
        gi_wp2
        exact CntR.fin HR.out HBR.out _ rfl
  case done =>
    rintro D xs W hD hSx ⟨hB, ⟨c0, f0⟩, ⟨c1, f1⟩, ⟨c2, f2⟩⟩ hK
    have e0 : xs.length = szN x := by have := congrArg List.length hSx; rw [List.length_map, wk_len] at this; exact this
    have ep : xs.map (fun v : Vis => v.path) = pthN x := by rw [← wk_path0, ← hSx, List.map_map]; rfl
    have e1 : mx (fun v : Vis => v.path.length) xs + 1 = dpN x := by rw [← mx_len x, ← ep, mx_map]
    have e2 : mx (fun v : Vis => lp x v.path) xs = neN x := by rw [← mx_lp x, ← ep, mx_map]
    rw [e0] at c0
    rw [e2] at c2
    have hm : ((mx (fun v : Vis => v.path.length) xs : Nat) : Int) + 1 = (dpN x : Int) := by omega
    generalize mx (fun v : Vis => v.path.length) xs = m1 at *
    have hm1 : m1 + 1 ≤ 40 := by omega
    have hwr : IntKind.i64.wrap ((m1 : Int) + 1) = (m1 : Int) + 1 := by rw [IntKind.wrap_i64]; omega
    have hne := ne_le_sz x
    have hbw : Below w.heap.size w W := hW.law.below.trans (hB.under (fun k hk e => by unfold cntOwn at e; omega) (by omega))
    have hF : CntF w S D (.int .i64 (szN x)) (.int .i64 m1) (.int .i64 (neN x)) #[.int .u8 x.f0, .int .i64 x.f1, .string x.f2, .slice A x.f3.length c] W := ⟨hbw, hW.le, c0, c1, c2, fun j => (hB.cell (b := w.heap.size) (j := j) (by omega) (by unfold cntOwn; omega)).trans (hW.law.n j), ⟨false, ⟨(hB.cell (b := w.heap.size + 1) (j := 0) (by omega) (by unfold cntOwn; omega)).trans hW.law.res.1, (hB.frozen (b := w.heap.size + 1) (j := 0) (by omega) (by unfold cntOwn; omega)).trans hW.law.res.2⟩⟩, hK⟩
    have HF := Aside0.mk hF
    have HK := Aside0.mk hK
    have HD := Aside0.mk (Nat.le_trans (show w.heap.size ≤ Wl.heap.size by omega) hD)
    have HC0 : Aside0 (∀ w', Below w.heap.size w w' → Calls Tryd.prog 29 #[nodeV x A c] w' fun e w'' => e = .returned (.int .i64 (szN x)) ∧ Below w'.heap.size w' w'') := ⟨fun w' h => size_n _ x A c w' (Nat.le_refl _) (by omega) (HA.out.below h).1 (HA.out.below h).2⟩
    have HC1 : Aside0 (∀ w', Below w.heap.size w w' → Calls Tryd.prog 31 #[nodeV x A c] w' fun e w'' => e = .returned (.int .i64 ((m1 : Int) + 1)) ∧ Below w'.heap.size w' w'') := ⟨fun w' h => hm ▸ depth_n _ x A c w' (Nat.le_refl _) (by omega) (HA.out.below h).1 (HA.out.below h).2⟩
    have HC2 : Aside0 (∀ w', Below w.heap.size w w' → Calls Tryd.prog 33 #[nodeV x A c] w' fun e w'' => e = .returned (.int .i64 (neN x)) ∧ Below w'.heap.size w' w'') := ⟨fun w' h => nest_n _ x A c w' (Nat.le_refl _) (by omega) (HA.out.below h).1 (HA.out.below h).2⟩
    clear hm hB hK hF hSx ep e0 e1 e2 c0 c1 c2 f0 f1 f2 hbw
    gi_wp2
    refine wpIn_wide.2 ?_
    have h0 : CntF w S D (.int .i64 (szN x)) (.int .i64 m1) (.int .i64 (neN x)) #[.int .u8 x.f0, .int .i64 x.f1, .string x.f2, .slice A x.f3.length c] W.drew := HF.out.drew
    go_region_held3 (fun w' => (w'.cell? ⟨S, 0, none⟩ = some (.int .i64 (szN x)) ∧ w'.cell? ⟨S + 1, 0, none⟩ = some (.int .i64 m1) ∧ w'.cell? ⟨S + 1 + 1, 0, none⟩ = some (.int .i64 (neN x)) ∧ (∀ j, w'.cell? ⟨w.heap.size, j, none⟩ = #[.int .u8 x.f0, .int .i64 x.f1, .string x.f2, .slice A x.f3.length c][j]?) ∧ w'.cell? ⟨w.heap.size + 1, 0, none⟩ = some (.bool (resB w' ⟨w.heap.size + 1, 0, none⟩)) ∧ w'.frozen? ⟨w.heap.size + 1, 0, none⟩ = false) ∧ CntF w S D (.int .i64 (szN x)) (.int .i64 m1) (.int .i64 (neN x)) #[.int .u8 x.f0, .int .i64 x.f1, .string x.f2, .slice A x.f3.length c] w')
      (first | assumption | exact cntAnd (by assumption) | exact cntAnd ((by assumption : _ ∧ CntF w S D (.int .i64 (szN x)) (.int .i64 m1) (.int .i64 (neN x)) #[.int .u8 x.f0, .int .i64 x.f1, .string x.f2, .slice A x.f3.length c] _).2.set _))
      (first
        | (go_at_call 29; refine (HC0.out _ (by assumption : _ ∧ CntF w S D (.int .i64 (szN x)) (.int .i64 m1) (.int .i64 (neN x)) #[.int .u8 x.f0, .int .i64 x.f1, .string x.f2, .slice A x.f3.length c] _).2.below).mono ?_; rintro e w5 ⟨rfl, hb5⟩; have hF5 := (by assumption : _ ∧ CntF w S D (.int .i64 (szN x)) (.int .i64 m1) (.int .i64 (neN x)) #[.int .u8 x.f0, .int .i64 x.f1, .string x.f2, .slice A x.f3.length c] _).2.step hb5)
        | (go_at_call 31; refine (HC1.out _ (by assumption : _ ∧ CntF w S D (.int .i64 (szN x)) (.int .i64 m1) (.int .i64 (neN x)) #[.int .u8 x.f0, .int .i64 x.f1, .string x.f2, .slice A x.f3.length c] _).2.below).mono ?_; rintro e w6 ⟨rfl, hb6⟩; have hF6 := (by assumption : _ ∧ CntF w S D (.int .i64 (szN x)) (.int .i64 m1) (.int .i64 (neN x)) #[.int .u8 x.f0, .int .i64 x.f1, .string x.f2, .slice A x.f3.length c] _).2.step hb6)
        | (go_at_call 33; refine (HC2.out _ (by assumption : _ ∧ CntF w S D (.int .i64 (szN x)) (.int .i64 m1) (.int .i64 (neN x)) #[.int .u8 x.f0, .int .i64 x.f1, .string x.f2, .slice A x.f3.length c] _).2.below).mono ?_; rintro e w7 ⟨rfl, hb7⟩; have hF7 := (by assumption : _ ∧ CntF w S D (.int .i64 (szN x)) (.int .i64 m1) (.int .i64 (neN x)) #[.int .u8 x.f0, .int .i64 x.f1, .string x.f2, .slice A x.f3.length c] _).2.step hb7))
    gi_wp2
    have hE := hF7.set true
    obtain ⟨b, hb⟩ := hF7.res
    exact leave1 rfl rfl (hb.set (.bool true)).1 hE.below HD.out hE.kd
  case stop =>
    rintro D c pre W _ _ h _
    exact h.elim
theorem lawCounts (x : Nd) (A : Option Addr) (c : Nat) (w : World) (hT : TabOk w) (hA : At w x A c) :
    Calls Tryd.prog 10 #[nodeV x A c] w fun e w' => e = .returned (.bool true) ∧ Below w.heap.size w w' := by
  rcases big_ok x with hb | ⟨hb, hs, hd⟩
  · exact lawCounts_big x A c w hT hA hb
  · exact lawCounts_main x A c w hT hA hb hs hd
end Go.Proofs.YtmdbbfoejmakdaaDoor.Ha

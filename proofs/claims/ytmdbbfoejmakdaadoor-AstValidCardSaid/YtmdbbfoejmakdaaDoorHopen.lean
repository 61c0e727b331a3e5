/-
  What a value of the node's type reads as: a tree in rows that lie. By this session, out of its own program (wip/gen).
-/
import Derived.Test.YtmdbbfoejmakdaaDoorHis
import Derived.WalkKit
import Derived.ProofKit
import Derived.OpenShut
import Derived.ChangeOld
import Derived.Below
namespace Go.Proofs.YtmdbbfoejmakdaaDoor.Ha
open Go.ChangeShapes Go.WideShapes Go.ChangeAt Go.RowKit Go.Proofs.YtmdbbfoejmakdaaDoorW.PrintWords Go.Proofs.YtmdbbfoejmakdaaDoor.P
set_option linter.unusedVariables false
set_option linter.unusedSimpArgs false
theorem cellsI : Tryd.prog.cellsOf 3 = 1 := by kernel_rfl
theorem cellsB : Tryd.prog.cellsOf 5 = 1 := by kernel_rfl
theorem cellsS : Tryd.prog.cellsOf 9 = 1 := by kernel_rfl
theorem cellsL : Tryd.prog.cellsOf 22 = 1 := by kernel_rfl
theorem cellsN : Tryd.prog.cellsOf 24 = 4 := by kernel_rfl
theorem add_add_addr (a : Addr) (m i : Nat) : (a.add m).add i = a.add (m + i) := by
  unfold Addr.add
  by_cases h1 : m = 0
  · subst h1; simp
  · by_cases h2 : i = 0
    · subst h2; simp
    · simp [h1, h2]; omega
theorem list_of {α : Type} {P : Nat → α → Prop} (n : Nat) (h : ∀ i, i < n → ∃ y, P i y) : ∃ l : List α, l.length = n ∧ ∀ i y, l[i]? = some y → P i y := by
  induction n with
  | zero => exact ⟨[], rfl, fun i y hy => by simp at hy⟩
  | succ n ih =>
    obtain ⟨l, hl, hp⟩ := ih (fun i hi => h i (by omega))
    obtain ⟨y, hy⟩ := h n (by omega)
    refine ⟨l ++ [y], by simp [hl], fun i z hz => ?_⟩
    by_cases hi : i < l.length
    · rw [List.getElem?_append_left hi] at hz; exact hp i z hz
    · have hlt := (List.getElem?_eq_some_iff.1 hz).1
      simp at hlt
      have e : i = n := by omega
      subst e
      rw [← hl] at hz
      simp at hz
      subst hz
      exact hy
theorem list4 {α : Type} {l : List α} (h : l.length = 4) : ∃ a b c d, l = [a, b, c, d] := by
  match l, h with
  | [a, b, c, d], _ => exact ⟨a, b, c, d, rfl⟩
theorem okL_all {l : List Nd} (h : ∀ x ∈ l, okN x) : okN.okL l := by
  induction l with
  | nil => trivial
  | cons x r ih => exact ⟨h x (List.mem_cons_self), ih fun y hy => h y (List.mem_cons_of_mem _ hy)⟩
section
variable {H : Type} {enc : TypeId × Value → H} {w : World} {base : Nat} {spare : Nat → Bool} {held : Bool}
theorem open_node : ∀ (fuel : Nat) (cs : List Value) (x : DataW H × List MemPlace), DataW.trod enc Tryd.prog w base spare held fuel 24 cs = some x →
    ∃ (nd : Nd) (A : Option Addr) (c : Nat), cs = [.int .u8 nd.f0, .int .i64 nd.f1, .string nd.f2, .slice A nd.f3.length c] ∧ At w nd A c ∧ okN nd := by
  intro fuel
  induction fuel using Nat.strongRecOn with
  | _ fuel ih =>
    intro cs x h
    obtain ⟨xs, n, hfuel, _, hl, hx, hf⟩ := DataW.trod_struct Tryd.underlying24 h
    rw [cellsN] at hl
    obtain ⟨c0, c1, c2, c3, rfl⟩ := list4 hl
    have f0 := hf 0 _ rfl
    have f1 := hf 1 _ rfl
    have f2 := hf 2 _ rfl
    have f3 := hf 3 _ rfl
    obtain ⟨y0, e0⟩ : ∃ y, xs[0]? = some y := ⟨_, List.getElem?_eq_getElem (by rw [hx]; decide)⟩
    obtain ⟨y1, e1⟩ : ∃ y, xs[1]? = some y := ⟨_, List.getElem?_eq_getElem (by rw [hx]; decide)⟩
    obtain ⟨y2, e2⟩ : ∃ y, xs[2]? = some y := ⟨_, List.getElem?_eq_getElem (by rw [hx]; decide)⟩
    obtain ⟨y3, e3⟩ : ∃ y, xs[3]? = some y := ⟨_, List.getElem?_eq_getElem (by rw [hx]; decide)⟩
    rw [e0] at f0
    rw [e1] at f1
    rw [e2] at f2
    rw [e3] at f3
    obtain ⟨a0, g0, _, wf0⟩ := DataW.trod_int Tryd.underlying5 f0
    obtain ⟨a1, g1, _, wf1⟩ := DataW.trod_int Tryd.underlying3 f1
    obtain ⟨a2, g2, _, wf2⟩ := DataW.trod_string Tryd.underlying9 f2
    simp [cellsB, cellsI, cellsS] at g0 g1 g2
    subst g0 g1 g2
    rcases DataW.trod_slice Tryd.underlying22 f3 with ⟨g3, _⟩ | ⟨a, len, cap, elems, rest, m, hm, g3, _, _, hlc, hcm, hel, hall, _⟩
    · simp [cellsL] at g3
      subst g3
      exact ⟨⟨a0, a1, a2, []⟩, none, 0, rfl, ⟨Kd.C_nil kNd w, Nat.le_refl _⟩, ⟨wf0, wf2, trivial⟩⟩
    · simp [cellsL] at g3
      subst g3
      have hnode : ∀ i, i < len → ∃ y : Nd, (∃ A c, (∀ j, j < 4 → w.cell? ((a.add (i * 4)).add j) = [Value.int .u8 y.f0, .int .i64 y.f1, .string y.f2, .slice A y.f3.length c][j]?) ∧ At w y A c) ∧ okN y := fun i hi => by
        have h1 := hall i hi
        obtain ⟨z, hz⟩ : ∃ z, elems[i]? = some z := ⟨_, List.getElem?_eq_getElem (by omega)⟩
        rw [hz, Option.bind_eq_some_iff] at h1
        obtain ⟨cs2, h2, h3⟩ := h1
        obtain ⟨nd, A, c, e, hA, hok⟩ := ih m (by omega) cs2 z h3
        rw [cellsN] at h2
        obtain ⟨_, _, hc⟩ := World.cells?_some h2
        refine ⟨nd, ⟨A, c, fun j hj => ?_, hA⟩, hok⟩
        rw [hc j hj, e]
      obtain ⟨l, hl, hp⟩ := list_of len hnode
      have hmax : len ≤ 9223372036854775807 := by unfold maxLen at hcm; omega
      refine ⟨⟨a0, a1, a2, l⟩, some a, cap, by simp [hl], ⟨⟨rfl, by show l.length ≤ _; omega, fun _ => ⟨a, rfl, fun j p hj => ?_⟩⟩, by show l.length ≤ cap; omega⟩, ⟨wf0, wf2, okL_all fun x hx => ?_⟩⟩
      · obtain ⟨⟨A, c, hc, hA⟩, _⟩ := hp j p hj
        refine ⟨_, rfl, k24_mk w p hA.2 hA.1, fun i u hu => ?_⟩
        have hi : i < 4 := by have := (List.getElem?_eq_some_iff.1 hu).1; simpa using this
        rw [← hu, ← hc i hi]
        rw [show j * (kNd).sz + i = j * 4 + i from rfl]
        rw [add_add_addr]
      · obtain ⟨i, hi, rfl⟩ := List.getElem_of_mem hx
        exact (hp i _ (List.getElem?_eq_getElem hi)).2
end
end Go.Proofs.YtmdbbfoejmakdaaDoor.Ha

/-
  What a value of type []int reads as: a row of whole numbers that lies. By this session, out of its own program (wip/gen).
-/
import Derived.Test.YtmdbbfoejmakdaaDoorHopen
namespace Go.Proofs.YtmdbbfoejmakdaaDoor.Ha
open Go.ChangeShapes Go.WideShapes Go.ChangeAt Go.RowKit Go.Proofs.YtmdbbfoejmakdaaDoorW.PrintWords Go.Proofs.YtmdbbfoejmakdaaDoor.P
set_option linter.unusedVariables false
section
variable {H : Type} {enc : TypeId × Value → H} {w : World} {base : Nat} {spare : Nat → Bool} {held : Bool}
theorem open_row {fuel : Nat} {cs : List Value} {x : DataW H × List MemPlace} (h : DataW.trod enc Tryd.prog w base spare held fuel 34 cs = some x) :
    ∃ (l : List Int) (A : Option Addr) (c : Nat), cs = [.slice A l.length c] ∧ Kd.C (Kd.int .i64) w A l.length l := by
  rcases DataW.trod_slice Tryd.underlying34 h with ⟨g3, _⟩ | ⟨a, len, cap, elems, rest, m, hm, g3, _, _, hlc, hcm, hel, hall, _⟩
  · exact ⟨[], none, 0, g3, Kd.C_nil _ w⟩
  · have hnode : ∀ i, i < len → ∃ y : Int, w.cell? (a.add i) = some (.int .i64 y) := fun i hi => by
      have h1 := hall i hi
      obtain ⟨z, hz⟩ : ∃ z, elems[i]? = some z := ⟨_, List.getElem?_eq_getElem (by omega)⟩
      rw [hz, Option.bind_eq_some_iff] at h1
      obtain ⟨cs2, h2, h3⟩ := h1
      obtain ⟨n, e, _, _⟩ := DataW.trod_int Tryd.underlying3 h3
      rw [cellsI, Nat.mul_one] at h2
      obtain ⟨_, _, hc⟩ := World.cells?_some h2
      have := hc 0 (by omega)
      rw [add_add_addr, Nat.add_zero, e] at this
      exact ⟨n, this⟩
    obtain ⟨l, hl, hp⟩ := list_of len hnode
    have hmax : len ≤ 9223372036854775807 := by unfold maxLen at hcm; omega
    refine ⟨l, some a, cap, by rw [hl]; exact g3, ⟨rfl, by omega, fun _ => ⟨a, rfl, fun j p hj => ⟨[.int .i64 p], rfl, rfl, fun i u hu => ?_⟩⟩⟩⟩
    have hi : i = 0 := by
      have := (List.getElem?_eq_some_iff.1 hu).1
      simp at this
      exact this
    subst hi
    simp at hu
    subst hu
    rw [show j * (Kd.int .i64).sz + 0 = j from by show j * 1 + 0 = j; omega]
    exact hp j p hj
end
end Go.Proofs.YtmdbbfoejmakdaaDoor.Ha

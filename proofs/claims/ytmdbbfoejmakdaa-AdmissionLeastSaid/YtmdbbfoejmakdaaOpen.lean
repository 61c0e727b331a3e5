/-
  What a value of the configuration's type reads as: fifteen whole numbers. By this session.
-/
import Derived.Test.YtmdbbfoejmakdaaRows
import Derived.WalkKit
import Derived.ProofKit
import Derived.OpenShut
import Derived.ChangeOld
import Derived.Below
namespace Go.Proofs.Ytmdbbfoejmakdaa.Op
open Go.ChangeShapes Go.WideShapes Go.ChangeAt Go.RowKit
set_option linter.unusedVariables false
set_option linter.unusedSimpArgs false
section
variable {H : Type} {enc : TypeId × Value → H} {w : World} {base : Nat} {spare : Nat → Bool} {held : Bool} {fuel : Nat}
theorem cells3 : Try.prog.cellsOf 3 = 1 := by kernel_rfl
theorem cells23 : Try.prog.cellsOf 23 = 4 := by kernel_rfl
theorem cells25 : Try.prog.cellsOf 25 = 3 := by kernel_rfl
theorem cells27 : Try.prog.cellsOf 27 = 15 := by kernel_rfl
theorem one_int {cs : List Value} {x : DataW H × List MemPlace} (h : DataW.trod enc Try.prog w base spare held fuel 3 cs = some x) : ∃ a : Int, cs = [.int .i64 a] := by
  obtain ⟨a, e, _⟩ := DataW.trod_int Try.underlying3 h
  exact ⟨a, e⟩
theorem open23 {cs : List Value} {x : DataW H × List MemPlace} (h : DataW.trod enc Try.prog w base spare held fuel 23 cs = some x) : ∃ mu di ta ha : Int, cs = [.int .i64 mu, .int .i64 di, .int .i64 ta, .int .i64 ha] := by
  obtain ⟨xs, n, _, _, hl, hx, hf⟩ := DataW.trod_struct Try.underlying23 h
  rw [cells23] at hl
  match cs, hl with
  | [c0, c1, c2, c3], _ =>
    have f0 := hf 0 _ rfl
    obtain ⟨y0, e0⟩ : ∃ y, xs[0]? = some y := ⟨_, List.getElem?_eq_getElem (by rw [hx]; decide)⟩
    rw [e0] at f0
    obtain ⟨mu, g0⟩ := one_int f0
    simp [cells3, cells23, cells25] at g0
    have f1 := hf 1 _ rfl
    obtain ⟨y1, e1⟩ : ∃ y, xs[1]? = some y := ⟨_, List.getElem?_eq_getElem (by rw [hx]; decide)⟩
    rw [e1] at f1
    obtain ⟨di, g1⟩ := one_int f1
    simp [cells3, cells23, cells25] at g1
    have f2 := hf 2 _ rfl
    obtain ⟨y2, e2⟩ : ∃ y, xs[2]? = some y := ⟨_, List.getElem?_eq_getElem (by rw [hx]; decide)⟩
    rw [e2] at f2
    obtain ⟨ta, g2⟩ := one_int f2
    simp [cells3, cells23, cells25] at g2
    have f3 := hf 3 _ rfl
    obtain ⟨y3, e3⟩ : ∃ y, xs[3]? = some y := ⟨_, List.getElem?_eq_getElem (by rw [hx]; decide)⟩
    rw [e3] at f3
    obtain ⟨ha, g3⟩ := one_int f3
    simp [cells3, cells23, cells25] at g3
    exact ⟨mu, di, ta, ha, by simp [g0, g1, g2, g3]⟩
theorem open25 {cs : List Value} {x : DataW H × List MemPlace} (h : DataW.trod enc Try.prog w base spare held fuel 25 cs = some x) : ∃ is iw il : Int, cs = [.int .i64 is, .int .i64 iw, .int .i64 il] := by
  obtain ⟨xs, n, _, _, hl, hx, hf⟩ := DataW.trod_struct Try.underlying25 h
  rw [cells25] at hl
  match cs, hl with
  | [c0, c1, c2], _ =>
    have f0 := hf 0 _ rfl
    obtain ⟨y0, e0⟩ : ∃ y, xs[0]? = some y := ⟨_, List.getElem?_eq_getElem (by rw [hx]; decide)⟩
    rw [e0] at f0
    obtain ⟨is, g0⟩ := one_int f0
    simp [cells3, cells23, cells25] at g0
    have f1 := hf 1 _ rfl
    obtain ⟨y1, e1⟩ : ∃ y, xs[1]? = some y := ⟨_, List.getElem?_eq_getElem (by rw [hx]; decide)⟩
    rw [e1] at f1
    obtain ⟨iw, g1⟩ := one_int f1
    simp [cells3, cells23, cells25] at g1
    have f2 := hf 2 _ rfl
    obtain ⟨y2, e2⟩ : ∃ y, xs[2]? = some y := ⟨_, List.getElem?_eq_getElem (by rw [hx]; decide)⟩
    rw [e2] at f2
    obtain ⟨il, g2⟩ := one_int f2
    simp [cells3, cells23, cells25] at g2
    exact ⟨is, iw, il, by simp [g0, g1, g2]⟩
theorem open27 {cs : List Value} {x : DataW H × List MemPlace} (h : DataW.trod enc Try.prog w base spare held fuel 27 cs = some x) : ∃ co sl tr mu di ta ha is iw il ds dw dl qu ke : Int, cs = [.int .i64 co, .int .i64 sl, .int .i64 tr, .int .i64 mu, .int .i64 di, .int .i64 ta, .int .i64 ha, .int .i64 is, .int .i64 iw, .int .i64 il, .int .i64 ds, .int .i64 dw, .int .i64 dl, .int .i64 qu, .int .i64 ke] := by
  obtain ⟨xs, n, _, _, hl, hx, hf⟩ := DataW.trod_struct Try.underlying27 h
  rw [cells27] at hl
  match cs, hl with
  | [c0, c1, c2, c3, c4, c5, c6, c7, c8, c9, c10, c11, c12, c13, c14], _ =>
    have f0 := hf 0 _ rfl
    obtain ⟨y0, e0⟩ : ∃ y, xs[0]? = some y := ⟨_, List.getElem?_eq_getElem (by rw [hx]; decide)⟩
    rw [e0] at f0
    obtain ⟨co, g0⟩ := one_int f0
    simp [cells3, cells23, cells25] at g0
    have f1 := hf 1 _ rfl
    obtain ⟨y1, e1⟩ : ∃ y, xs[1]? = some y := ⟨_, List.getElem?_eq_getElem (by rw [hx]; decide)⟩
    rw [e1] at f1
    obtain ⟨sl, g1⟩ := one_int f1
    simp [cells3, cells23, cells25] at g1
    have f2 := hf 2 _ rfl
    obtain ⟨y2, e2⟩ : ∃ y, xs[2]? = some y := ⟨_, List.getElem?_eq_getElem (by rw [hx]; decide)⟩
    rw [e2] at f2
    obtain ⟨tr, g2⟩ := one_int f2
    simp [cells3, cells23, cells25] at g2
    have f3 := hf 3 _ rfl
    obtain ⟨y3, e3⟩ : ∃ y, xs[3]? = some y := ⟨_, List.getElem?_eq_getElem (by rw [hx]; decide)⟩
    rw [e3] at f3
    obtain ⟨mu, di, ta, ha, g3⟩ := open23 f3
    simp [cells3, cells23, cells25] at g3
    have f4 := hf 4 _ rfl
    obtain ⟨y4, e4⟩ : ∃ y, xs[4]? = some y := ⟨_, List.getElem?_eq_getElem (by rw [hx]; decide)⟩
    rw [e4] at f4
    obtain ⟨is, iw, il, g4⟩ := open25 f4
    simp [cells3, cells23, cells25] at g4
    have f5 := hf 5 _ rfl
    obtain ⟨y5, e5⟩ : ∃ y, xs[5]? = some y := ⟨_, List.getElem?_eq_getElem (by rw [hx]; decide)⟩
    rw [e5] at f5
    obtain ⟨ds, dw, dl, g5⟩ := open25 f5
    simp [cells3, cells23, cells25] at g5
    have f6 := hf 6 _ rfl
    obtain ⟨y6, e6⟩ : ∃ y, xs[6]? = some y := ⟨_, List.getElem?_eq_getElem (by rw [hx]; decide)⟩
    rw [e6] at f6
    obtain ⟨qu, g6⟩ := one_int f6
    simp [cells3, cells23, cells25] at g6
    have f7 := hf 7 _ rfl
    obtain ⟨y7, e7⟩ : ∃ y, xs[7]? = some y := ⟨_, List.getElem?_eq_getElem (by rw [hx]; decide)⟩
    rw [e7] at f7
    obtain ⟨ke, g7⟩ := one_int f7
    simp [cells3, cells23, cells25] at g7
    exact ⟨co, sl, tr, mu, di, ta, ha, is, iw, il, ds, dw, dl, qu, ke, by simp [g0, g1, g2, g3, g4, g5, g6, g7]⟩
end
end Go.Proofs.Ytmdbbfoejmakdaa.Op

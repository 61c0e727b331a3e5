/-
  What a value of the program's type reads as: declarations and tasks in rows that lie. By this session, out of its own program (wip/gen).
-/
import Derived.Test.YtmdbbfoejmakdaaDoorHopen
namespace Go.Proofs.YtmdbbfoejmakdaaDoor.Ha
open Go.ChangeShapes Go.WideShapes Go.ChangeAt Go.RowKit Go.Proofs.YtmdbbfoejmakdaaDoorW.PrintWords Go.Proofs.YtmdbbfoejmakdaaDoor.P
set_option linter.unusedVariables false
set_option linter.unusedSimpArgs false
theorem cellsArr : Tryd.prog.cellsOf 71 = 2 := by kernel_rfl
theorem cellsTask : Tryd.prog.cellsOf 65 = 8 := by kernel_rfl
theorem cellsProg : Tryd.prog.cellsOf 50 = 2 := by kernel_rfl
theorem cellsLS : Tryd.prog.cellsOf 63 = 1 := by kernel_rfl
theorem cellsLA : Tryd.prog.cellsOf 47 = 1 := by kernel_rfl
theorem cellsLT : Tryd.prog.cellsOf 48 = 1 := by kernel_rfl
/-- What a declaration that came in is. -/
def okA (a : S71) : Prop := a.f0.size ≤ 9223372036854775807 ∧ (Lit.int .i64 a.f1).wf = true
/-- What a task that came in is. -/
def okT (t : S65) : Prop := t.f0.size ≤ 9223372036854775807 ∧ (Lit.int .i64 t.f1).wf = true ∧ (∀ v ∈ t.f2, v.size ≤ 9223372036854775807) ∧ (∀ a ∈ t.f3, okA a) ∧ okN t.f4
theorem list2 {α : Type} {l : List α} (h : l.length = 2) : ∃ a b, l = [a, b] := by
  match l, h with
  | [a, b], _ => exact ⟨a, b, rfl⟩
theorem list8 {α : Type} {l : List α} (h : l.length = 8) : ∃ a b c d e f g i, l = [a, b, c, d, e, f, g, i] := by
  match l, h with
  | [a, b, c, d, e, f, g, i], _ => exact ⟨a, b, c, d, e, f, g, i, rfl⟩
section
variable {H : Type} {enc : TypeId × Value → H} {w : World} {base : Nat} {spare : Nat → Bool} {held : Bool}
theorem open_sl {α : Type} (d : Kd α) (ok : α → Prop) {t e fuel : Nat} {cs : List Value} {x : DataW H × List MemPlace} (ht : Tryd.prog.underlying t = some (.slice e)) (hc : Tryd.prog.cellsOf e = d.sz)
    (hop : ∀ m, m < fuel → ∀ cs2 z, DataW.trod enc Tryd.prog w base spare held m e cs2 = some z → ∃ y, d.K w y cs2 ∧ ok y)
    (h : DataW.trod enc Tryd.prog w base spare held fuel t cs = some x) : ∃ (l : List α) (A : Option Addr) (c : Nat), cs = [.slice A l.length c] ∧ l.length ≤ c ∧ Kd.C d w A l.length l ∧ ∀ y ∈ l, ok y := by
  rcases DataW.trod_slice ht h with ⟨g3, _⟩ | ⟨a, len, cap, elems, rest, m, hm, g3, _, _, hlc, hcm, hel, hall, _⟩
  · exact ⟨[], none, 0, g3, Nat.le_refl _, Kd.C_nil d w, fun y hy => by cases hy⟩
  · have hnode : ∀ i, i < len → ∃ y : α, (∃ cs2, d.K w y cs2 ∧ ∀ j u, cs2[j]? = some u → w.cell? (a.add (i * d.sz + j)) = some u) ∧ ok y := fun i hi => by
      have h1 := hall i hi
      obtain ⟨z, hz⟩ : ∃ z, elems[i]? = some z := ⟨_, List.getElem?_eq_getElem (by omega)⟩
      rw [hz, Option.bind_eq_some_iff] at h1
      obtain ⟨cs2, h2, h3⟩ := h1
      obtain ⟨y, hK, hok⟩ := hop m (by omega) cs2 z h3
      rw [hc] at h2
      obtain ⟨_, _, hcell⟩ := World.cells?_some h2
      refine ⟨y, ⟨cs2, hK, fun j u hu => ?_⟩, hok⟩
      have hj : j < d.sz := by have := (List.getElem?_eq_some_iff.1 hu).1; rwa [d.K_len hK] at this
      have := hcell j hj
      rw [add_add_addr] at this
      rw [this, hu]
    obtain ⟨l, hl, hp⟩ := list_of len hnode
    have hmax : len ≤ 9223372036854775807 := by unfold maxLen at hcm; omega
    refine ⟨l, some a, cap, by rw [hl]; exact g3, by omega, ⟨rfl, by omega, fun _ => ⟨a, rfl, fun j p hj => ?_⟩⟩, fun y hy => ?_⟩
    · obtain ⟨⟨cs2, hK, hcell⟩, _⟩ := hp j p hj
      exact ⟨cs2, d.K_len hK, hK, hcell⟩
    · obtain ⟨i, hi, rfl⟩ := List.getElem_of_mem hy
      exact (hp i _ (List.getElem?_eq_getElem hi)).2
theorem open_str {fuel : Nat} {cs : List Value} {x : DataW H × List MemPlace} (h : DataW.trod enc Tryd.prog w base spare held fuel 9 cs = some x) : ∃ y : ByteArray, Kd.string.K w y cs ∧ y.size ≤ 9223372036854775807 := by
  obtain ⟨a2, g2, _, wf2⟩ := DataW.trod_string Tryd.underlying9 h
  exact ⟨a2, g2, wf2⟩
theorem open_arr {fuel : Nat} {cs : List Value} {x : DataW H × List MemPlace} (h : DataW.trod enc Tryd.prog w base spare held fuel 71 cs = some x) : ∃ y : S71, k71.K w y cs ∧ okA y := by
  obtain ⟨xs, n, hfuel, _, hl, hx, hf⟩ := DataW.trod_struct Tryd.underlying71 h
  rw [cellsArr] at hl
  obtain ⟨c0, c1, rfl⟩ := list2 hl
  have f0 := hf 0 _ rfl
  have f1 := hf 1 _ rfl
  obtain ⟨y0, e0⟩ : ∃ y, xs[0]? = some y := ⟨_, List.getElem?_eq_getElem (by rw [hx]; decide)⟩
  obtain ⟨y1, e1⟩ : ∃ y, xs[1]? = some y := ⟨_, List.getElem?_eq_getElem (by rw [hx]; decide)⟩
  rw [e0] at f0
  rw [e1] at f1
  obtain ⟨a0, g0, _, wf0⟩ := DataW.trod_string Tryd.underlying9 f0
  obtain ⟨a1, g1, _, wf1⟩ := DataW.trod_int Tryd.underlying3 f1
  simp [cellsI, cellsS] at g0 g1
  subst g0 g1
  exact ⟨⟨a0, a1⟩, k71_mk w ⟨a0, a1⟩, wf0, wf1⟩
theorem open_task {fuel : Nat} {cs : List Value} {x : DataW H × List MemPlace} (h : DataW.trod enc Tryd.prog w base spare held fuel 65 cs = some x) : ∃ y : S65, k65.K w y cs ∧ okT y := by
  obtain ⟨xs, n, hfuel, _, hl, hx, hf⟩ := DataW.trod_struct Tryd.underlying65 h
  rw [cellsTask] at hl
  obtain ⟨c0, c1, c2, c3, c4, c5, c6, c7, rfl⟩ := list8 hl
  have f0 := hf 0 _ rfl
  have f1 := hf 1 _ rfl
  have f2 := hf 2 _ rfl
  have f3 := hf 3 _ rfl
  have f4 := hf 4 _ rfl
  obtain ⟨y0, e0⟩ : ∃ y, xs[0]? = some y := ⟨_, List.getElem?_eq_getElem (by rw [hx]; decide)⟩
  obtain ⟨y1, e1⟩ : ∃ y, xs[1]? = some y := ⟨_, List.getElem?_eq_getElem (by rw [hx]; decide)⟩
  obtain ⟨y2, e2⟩ : ∃ y, xs[2]? = some y := ⟨_, List.getElem?_eq_getElem (by rw [hx]; decide)⟩
  obtain ⟨y3, e3⟩ : ∃ y, xs[3]? = some y := ⟨_, List.getElem?_eq_getElem (by rw [hx]; decide)⟩
  obtain ⟨y4, e4⟩ : ∃ y, xs[4]? = some y := ⟨_, List.getElem?_eq_getElem (by rw [hx]; decide)⟩
  rw [e0] at f0
  rw [e1] at f1
  rw [e2] at f2
  rw [e3] at f3
  rw [e4] at f4
  obtain ⟨a0, g0, _, wf0⟩ := DataW.trod_string Tryd.underlying9 f0
  obtain ⟨a1, g1, _, wf1⟩ := DataW.trod_int Tryd.underlying3 f1
  obtain ⟨l2, A2, b2, g2, h2, C2, ok2⟩ := open_sl Kd.string (fun y : ByteArray => y.size ≤ 9223372036854775807) Tryd.underlying63 cellsS (fun m _ cs2 z hz => open_str hz) f2
  obtain ⟨l3, A3, b3, g3, h3, C3, ok3⟩ := open_sl k71 okA Tryd.underlying47 cellsArr (fun m _ cs2 z hz => open_arr hz) f3
  obtain ⟨nd, A4, b4, g4, hA, hok⟩ := open_node _ _ _ f4
  simp [cellsI, cellsS, cellsLS, cellsLA, cellsN] at g0 g1 g2 g3 g4
  obtain ⟨g4, g5, g6, g7⟩ := g4
  subst g0 g1 g2 g3 g4 g5 g6 g7
  exact ⟨⟨a0, a1, l2, l3, nd⟩, k65_mk w ⟨a0, a1, l2, l3, nd⟩ h2 C2 h3 C3 hA.2 hA.1, wf0, wf1, ok2, ok3, hok⟩
/-- What a program that came in is. -/
def okP (sh : List S71) (ts : List S65) : Prop := (∀ a ∈ sh, okA a) ∧ ∀ t ∈ ts, okT t
/-- A program's two rows in memory. -/
structure AtP (w : World) (sh : List S71) (A0 : Option Addr) (c0 : Nat) (ts : List S65) (A1 : Option Addr) (c1 : Nat) : Prop where
  C0 : Kd.C k71 w A0 sh.length sh
  le0 : sh.length ≤ c0
  C1 : Kd.C k65 w A1 ts.length ts
  le1 : ts.length ≤ c1
theorem AtP.below {w w' : World} {sh : List S71} {A0 : Option Addr} {c0 : Nat} {ts : List S65} {A1 : Option Addr} {c1 : Nat} (h : AtP w sh A0 c0 ts A1 c1) (hb : Below w.heap.size w w') : AtP w' sh A0 c0 ts A1 c1 :=
  ⟨Kd.C_below h.C0 hb, h.le0, Kd.C_below h.C1 hb, h.le1⟩
theorem open_prog {fuel : Nat} {cs : List Value} {x : DataW H × List MemPlace} (h : DataW.trod enc Tryd.prog w base spare held fuel 50 cs = some x) :
    ∃ sh A0 c0 ts A1 c1, cs = [.slice A0 sh.length c0, .slice A1 ts.length c1] ∧ AtP w sh A0 c0 ts A1 c1 ∧ okP sh ts := by
  obtain ⟨xs, n, hfuel, _, hl, hx, hf⟩ := DataW.trod_struct Tryd.underlying50 h
  rw [cellsProg] at hl
  obtain ⟨c0, c1, rfl⟩ := list2 hl
  have f0 := hf 0 _ rfl
  have f1 := hf 1 _ rfl
  obtain ⟨y0, e0⟩ : ∃ y, xs[0]? = some y := ⟨_, List.getElem?_eq_getElem (by rw [hx]; decide)⟩
  obtain ⟨y1, e1⟩ : ∃ y, xs[1]? = some y := ⟨_, List.getElem?_eq_getElem (by rw [hx]; decide)⟩
  rw [e0] at f0
  rw [e1] at f1
  obtain ⟨l2, A2, b2, g2, h2, C2, ok2⟩ := open_sl k71 okA Tryd.underlying47 cellsArr (fun m _ cs2 z hz => open_arr hz) f0
  obtain ⟨l3, A3, b3, g3, h3, C3, ok3⟩ := open_sl k65 okT Tryd.underlying48 cellsTask (fun m _ cs2 z hz => open_task hz) f1
  simp [cellsLA, cellsLT] at g2 g3
  subst g2 g3
  exact ⟨l2, A2, b2, l3, A3, b3, rfl, ⟨C2, h2, C3, h3⟩, ok2, ok3⟩
end
end Go.Proofs.YtmdbbfoejmakdaaDoor.Ha

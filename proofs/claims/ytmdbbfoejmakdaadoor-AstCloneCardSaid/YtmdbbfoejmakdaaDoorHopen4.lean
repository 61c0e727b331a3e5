/-
  The form's own reach bounds every name of a tree that came in. By this session, out of its own program (wip/gen).
-/
import Derived.Test.YtmdbbfoejmakdaaDoorHopen
import Derived.Test.YtmdbbfoejmakdaaDoorHchg
import Derived.SizedLaws
namespace Go.Proofs.YtmdbbfoejmakdaaDoor.Ha
open Go.ChangeShapes Go.WideShapes Go.ChangeAt Go.RowKit Go.Proofs.YtmdbbfoejmakdaaDoorW.PrintWords Go.Proofs.YtmdbbfoejmakdaaDoor.P
set_option linter.unusedVariables false
set_option linter.unusedSimpArgs false
theorem weights_all {H : Type} {P : Program} {e : TypeId} {l : List (DataW H)} {y : DataW H} (hy : y ∈ l) {n : Nat} (hn : n ∈ y.weights P e) : n ∈ DataW.weightsAll P e l := by
  induction l with
  | nil => cases hy
  | cons z r ih =>
    rw [DataW.weightsAll, List.mem_append]
    cases hy with
    | head => exact Or.inl hn
    | tail _ h => exact Or.inr (ih h)
section
variable {H : Type} {enc : TypeId × Value → H} {w : World} {base : Nat} {spare : Nat → Bool} {held : Bool}
theorem open_nm : ∀ (fuel : Nat) (cs : List Value) (x : DataW H × List MemPlace) (nd : Nd) (A : Option Addr) (c : Nat), DataW.trod enc Tryd.prog w base spare held fuel 24 cs = some x →
    cs = [.int .u8 nd.f0, .int .i64 nd.f1, .string nd.f2, .slice A nd.f3.length c] → At w nd A c → (∀ m ∈ x.1.weights Tryd.prog 24, m ≤ reachBytes) → nmOk reachBytes nd := by
  intro fuel
  induction fuel using Nat.strongRecOn with
  | _ fuel ih =>
    rintro cs x ⟨n0, n1, n2, ks⟩ A c h ecs hA hw
    subst ecs
    obtain ⟨xs, n, hfuel, hx0, hl, hx, hf⟩ := DataW.trod_struct Tryd.underlying24 h
    have f2 := hf 2 _ rfl
    have f3 := hf 3 _ rfl
    obtain ⟨y2, e2⟩ : ∃ y, xs[2]? = some y := ⟨_, List.getElem?_eq_getElem (by rw [hx]; decide)⟩
    obtain ⟨y3, e3⟩ : ∃ y, xs[3]? = some y := ⟨_, List.getElem?_eq_getElem (by rw [hx]; decide)⟩
    rw [e2] at f2
    rw [e3] at f3
    have hmem : ∀ (i : Nat) (t : TypeId) (y : DataW H × List MemPlace), [5, 3, 9, 22][i]? = some t → xs[i]? = some y → ∀ m ∈ y.1.weights Tryd.prog t, m ≤ reachBytes := fun i t y ht hy m hm => by
      refine hw m ?_
      rw [hx0]
      simp only [DataW.weights, Tryd.underlying24]
      exact DataW.weights_mem_each (ts := [5, 3, 9, 22]) ht (by rw [List.getElem?_map, hy]; rfl) m hm
    obtain ⟨a2, g2, h2, wf2⟩ := DataW.trod_string Tryd.underlying9 f2
    simp [cellsB, cellsI, cellsS] at g2
    subst g2
    refine ⟨?_, ?_⟩
    · have := hmem 2 9 y2 rfl e2 n2.data.toList.length (by rw [h2]; simp [DataW.weights])
      rwa [Array.length_toList] at this
    · refine nmL_all fun y hy => ?_
      rcases DataW.trod_slice Tryd.underlying22 f3 with ⟨g3, _⟩ | ⟨a, len, cap, elems, rest, m, hm, g3, h3, _, hlc, hcm, hel, hall, _⟩
      · simp [cellsL] at g3
        have : ks = [] := by first | exact g3.2.1 | exact List.eq_nil_of_length_eq_zero g3.2.1
        rw [this] at hy
        cases hy
      · simp [cellsL] at g3
        obtain ⟨rfl, hlen, rfl⟩ := g3
        obtain ⟨i, hi, rfl⟩ := List.getElem_of_mem hy
        obtain ⟨ad, e, hc0⟩ := hA.1.2.2 (by show 0 < ks.length; omega)
        cases e
        obtain ⟨cs3, hl3, hK3, hcell⟩ := hc0 i _ (List.getElem?_eq_getElem hi)
        obtain ⟨A3, c3, rfl, l3, g3⟩ := k24_open hK3
        have h1 := hall i (by omega)
        obtain ⟨z, hz⟩ : ∃ z, elems[i]? = some z := ⟨_, List.getElem?_eq_getElem (by omega)⟩
        rw [hz, Option.bind_eq_some_iff] at h1
        obtain ⟨cs2, h4, h5⟩ := h1
        rw [cellsN] at h4
        obtain ⟨_, hl2, hc⟩ := World.cells?_some h4
        have ecs2 : cs2 = [.int .u8 ks[i].f0, .int .i64 ks[i].f1, .string ks[i].f2, .slice A3 ks[i].f3.length c3] := by
          apply List.ext_getElem?
          intro j
          by_cases hj : j < 4
          · rw [← hc j hj]
            obtain ⟨u, hu⟩ : ∃ u, [Value.int .u8 ks[i].f0, .int .i64 ks[i].f1, .string ks[i].f2, .slice A3 ks[i].f3.length c3][j]? = some u := by
              match j, hj with
              | 0, _ => exact ⟨_, rfl⟩
              | 1, _ => exact ⟨_, rfl⟩
              | 2, _ => exact ⟨_, rfl⟩
              | 3, _ => exact ⟨_, rfl⟩
            rw [hu, add_add_addr]
            exact hcell j u hu
          · rw [List.getElem?_eq_none (by omega), List.getElem?_eq_none (by simp; omega)]
        refine ih m (by omega) cs2 z ks[i] A3 c3 h5 ecs2 ⟨g3, l3⟩ fun q hq => ?_
        refine hmem 3 22 y3 rfl e3 q ?_
        rw [h3]
        simp only [DataW.weights, Tryd.underlying22]
        refine List.mem_cons_of_mem _ (List.mem_append_left _ (weights_all (y := z.1) ?_ hq))
        exact List.mem_map.2 ⟨z, List.mem_of_getElem? hz, rfl⟩
end
theorem nmOk_mono {M M' : Nat} (h : M ≤ M') : ∀ (n : Nat) (x : Nd), SizeOf.sizeOf x ≤ n → nmOk M x → nmOk M' x := by
  intro n
  induction n with
  | zero => intro x hn; exact absurd hn (by cases x; simp)
  | succ n ih =>
    rintro ⟨a, b, d, ks⟩ hn hx
    rw [nmOk] at hx ⊢
    refine ⟨Nat.le_trans hx.1 h, nmL_all fun y hy => ih y (so_le (kid_lt (x := ⟨a, b, d, ks⟩) hy) hn) (nmL_mem hx.2 hy)⟩
end Go.Proofs.YtmdbbfoejmakdaaDoor.Ha

/-
  What a look-up in the map of forms answers. By this session, out of its own program (wip/gen).
-/
import Derived.Test.YtmdbbfoejmakdaaDoorHform
namespace Go.Proofs.YtmdbbfoejmakdaaDoor.Ha
open Go.RowKit Go.Proofs.YtmdbbfoejmakdaaDoorW.PrintWords Go.Proofs.YtmdbbfoejmakdaaDoorW.PrintLast Go.Proofs.YtmdbbfoejmakdaaDoorW.PrintMore Go.Proofs.YtmdbbfoejmakdaaDoor.P Go.Maps
set_option linter.unusedVariables false
set_option linter.unusedSimpArgs false

theorem KidsAt.below {w w' : World} {B base : Nat} {s : Value} {kids : List Int} (h : KidsAt w B s kids) (hb : Below w.heap.size w w') : KidsAt w' B s kids := by
  rcases h with h | ⟨b, hB, hlt, hs, hc⟩
  · exact Or.inl h
  · exact Or.inr ⟨b, hB, Nat.lt_of_lt_of_le hlt hb.size, hs, fun j => (hb.cell (p := ⟨b, j, none⟩) hlt).trans (hc j)⟩
theorem MapAt.below {w w' : World} {B n : Nat} {F : Int → Option Form} (h : MapAt w B n F) (hb : Below w.heap.size w w') : MapAt w' B n F := by
  obtain ⟨D, ⟨es, clock, hB, hF, hs, hD⟩, hD2⟩ := h
  have hlt : B < w.heap.size := by
    rcases Nat.lt_or_ge B w.heap.size with h | h
    · exact h
    · rw [Array.getElem?_eq_none h] at hB; cases hB
  exact ⟨D, ⟨es, clock, (hb.block B hlt).trans hB, hF, hs, hD⟩, fun c => ⟨(hD2 c).1, fun f hf => by obtain ⟨h1, s, h2, h3⟩ := (hD2 c).2 f hf; exact ⟨h1, s, h2, h3.below (base := 0) hb⟩⟩⟩
/-- The categories of the children, as a list. -/
theorem KidsAt.list {w : World} {B : Nat} {s : Value} {kids : List Int} (h : KidsAt w B s kids) (hl : kids.length ≤ 9223372036854775807) : ∃ A, s = .slice A kids.length kids.length ∧ Kd.C (Kd.int .u8) w A kids.length kids := by
  rcases h with ⟨rfl, rfl⟩ | ⟨b, hB, hlt, hs, hc⟩
  · exact ⟨none, rfl, rfl, by simp, fun hp => absurd hp (by simp)⟩
  · refine ⟨_, hs, rfl, hl, fun hp => ⟨_, rfl, fun j p hj => ⟨[.int .u8 p], rfl, rfl, fun i u hu => ?_⟩⟩⟩
    rw [add_plain]
    have hi : i = 0 := by
      have := (List.getElem?_eq_some_iff.1 hu).1
      simp at this
      exact this
    subst hi
    have e2 : j * (Kd.int .u8).sz + 0 = j := by show j * 1 + 0 = j; omega
    have e3 : j * 1 + 0 = j := by omega
    first | rw [e2] | rw [e3] | skip
    rw [hc]
    simp at hu
    subst hu
    simp [hj]
theorem zeroForm (w : World) : (zeroValue 120).run Tryd.prog w = .ok (formV ⟨0, false, 0, 0, []⟩ (.slice none 0 0)) w := by kernel_rfl
/-- 'f, ok := c[kind]'. -/
theorem MapAt.look {w : World} {B n : Nat} {F : Int → Option Form} (h : MapAt w B n F) {t : TypeId} (ht : Tryd.prog.underlying t = some (.map 5 120)) (c : Int) (hwf : (Lit.int .u8 c).wf = true) :
    (F c = none ∧ (Instr.lookup t (.map (some B)) (.int .u8 c) true).run Tryd.prog w = .ok (.tuple #[.agg #[.int .u8 0, .bool false, .int .i64 0, .int .i64 0, .slice none 0 0], .bool false]) w) ∨
    (∃ f s, F c = some f ∧ KidsAt w B s f.kids ∧ (Instr.lookup t (.map (some B)) (.int .u8 c) true).run Tryd.prog w = .ok (.tuple #[.agg #[.int .u8 f.is, .bool f.name, .int .i64 f.lo, .int .i64 f.hi, s], .bool true]) w) := by
  obtain ⟨D, hD, hD2⟩ := h
  obtain ⟨v, ps, hrun, hv⟩ := hD.look_ok law8 ht (zeroForm w) (zd := .held (formV ⟨0, false, 0, 0, []⟩ (.slice none 0 0))) (zp := []) rfl (keyOf_int_mk Tryd.underlying5 hwf)
  simp only [Rv, Option.some.injEq, Prod.mk.injEq] at hv
  obtain ⟨hv, _⟩ := hv
  cases hF : F c with
  | none =>
    have h1 := (hD2 c).1 hF
    rw [h1] at hrun
    rw [atKey_of_not_has h1] at hv
    injection hv with hv
    subst hv
    exact Or.inl ⟨rfl, hrun⟩
  | some f =>
    obtain ⟨h1, s, h2, h3⟩ := (hD2 c).2 f hF
    rw [h1] at hrun
    rw [h2] at hv
    injection hv with hv
    subst hv
    exact Or.inr ⟨f, s, rfl, h3, hrun⟩
end Go.Proofs.YtmdbbfoejmakdaaDoor.Ha

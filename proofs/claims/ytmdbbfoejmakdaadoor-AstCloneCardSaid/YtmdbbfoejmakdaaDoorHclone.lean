/-
  The contracts of slices.Clone over nodes and of ast.Clone: the copy's rows are all new. By this session, out of its own program (wip/gen).
-/
import Derived.Test.YtmdbbfoejmakdaaDoorHrow
import Derived.Test.YtmdbbfoejmakdaaDoorHwalk
import Derived.Test.YtmdbbfoejmakdaaDoorHat
namespace Go.Proofs.YtmdbbfoejmakdaaDoor.Ha
open Go.RowKit Go.Shelf Go.Proofs.YtmdbbfoejmakdaaDoorW.PrintWords Go.Proofs.YtmdbbfoejmakdaaDoorW.PrintLast Go.Proofs.YtmdbbfoejmakdaaDoorW.PrintMore Go.Proofs.YtmdbbfoejmakdaaDoor.P
set_option linter.unusedVariables false
set_option linter.unusedSimpArgs false
theorem at_of {w : World} {A : Option Addr} {c : Nat} {ks : List Nd} (h : Kd.C kNd w A ks.length ks) (hc : ks.length ≤ c) : At w ⟨0, 0, ⟨#[]⟩, ks⟩ A c := ⟨h, hc⟩
/-- A row of nodes by its cells, each child's slice known by Q. -/
def Els (ks : List Nd) (xs : List Value) (Q : Nat → Nd → Option Addr → Nat → Prop) : Prop :=
  ∀ (j : Nat) (y : Nd), ks[j]? = some y → ∃ A c, (∀ i, i < 4 → xs[j * 4 + i]? = [Value.int .u8 y.f0, .int .i64 y.f1, .string y.f2, .slice A y.f3.length c][i]?) ∧ Q j y A c
theorem Els.mono {ks : List Nd} {xs : List Value} {Q Q' : Nat → Nd → Option Addr → Nat → Prop} (h : Els ks xs Q) (hq : ∀ j y A c, ks[j]? = some y → Q j y A c → Q' j y A c) : Els ks xs Q' := fun j y hj => by
  obtain ⟨A, c, h1, h2⟩ := h j y hj
  exact ⟨A, c, h1, hq _ _ _ _ hj h2⟩
theorem els_of_rows {w : World} {ks : List Nd} {cs : List (List Value)} (h : RowOf w ks cs) : Els ks cs.flatten (fun _ y A c => At w y A c) := fun j y hj => by
  have hlt := (List.getElem?_eq_some_iff.1 hj).1
  have hcj : cs[j]? = some (cs[j]'(by rw [h.len]; exact hlt)) := List.getElem?_eq_getElem _
  obtain ⟨A, c, e, l, g⟩ := k24_open (h.K j _ y hcj hj)
  refine ⟨A, c, fun i hi => ?_, g, l⟩
  rw [flat4 cs h.four j i hi, hcj, e]
  rfl
theorem own_set1 {W : World} {base g n cap size : Nat} {e : TypeId} {xs : List Value} (h : W.ownsRow base e size (.slice (some ⟨g, 0, none⟩) n cap) n xs) (i : Nat) (u : Value) : (W.setCell ⟨g, i, none⟩ u).ownsRow base e size (.slice (some ⟨g, 0, none⟩) n cap) n (xs.set i u) := by
  obtain ⟨h1, h2⟩ := h
  refine ⟨by rw [List.length_set]; exact h1, ?_⟩
  rcases h2 with ⟨h, _⟩ | ⟨g', cap', cur, hv, hg, hh, hnc, hcm, hs, ht⟩
  · cases h
  · simp only [Value.slice.injEq, Option.some.injEq, Addr.mk.injEq, and_true, true_and] at hv
    obtain ⟨rfl, rfl⟩ := hv
    refine Or.inr ⟨g, cap, cur.setIfInBounds i u, rfl, hg, blk_set hh i u, hnc, hcm, by simpa using hs, ?_⟩
    rw [Array.toList_setIfInBounds, ← ht, List.take_set]
theorem own_frozen {W : World} {base g n cap size : Nat} {e : TypeId} {xs : List Value} (h : W.ownsRow base e size (.slice (some ⟨g, 0, none⟩) n cap) n xs) (i : Nat) : W.frozen? ⟨g, i, none⟩ = false := by
  rcases h.2 with ⟨h, _⟩ | ⟨g', cap', cur, hv, hg, hh, _⟩
  · cases h
  · simp only [Value.slice.injEq, Option.some.injEq, Addr.mk.injEq, and_true, true_and] at hv
    obtain ⟨rfl, rfl⟩ := hv
    exact heap_frozen hh i
theorem own_put4 {W : World} {base g n cap : Nat} {e : TypeId} {xs : List Value} (h : W.ownsRow base e 4 (.slice (some ⟨g, 0, none⟩) n cap) n xs) (k : Nat) (a b c d : Value) :
    ((((W.setCell ⟨g, k, none⟩ a).setCell ⟨g, k + 1, none⟩ b).setCell ⟨g, k + 2, none⟩ c).setCell ⟨g, k + 3, none⟩ d).ownsRow base e 4 (.slice (some ⟨g, 0, none⟩) n cap) n ((((xs.set k a).set (k + 1) b).set (k + 2) c).set (k + 3) d) :=
  own_set1 (own_set1 (own_set1 (own_set1 h _ _) _ _) _ _) _ _
theorem get_put4 (xs : List Value) (k : Nat) (a b c d : Value) (j : Nat) (hk : k + 3 < xs.length) : ((((xs.set k a).set (k + 1) b).set (k + 2) c).set (k + 3) d)[j]? = if j = k then some a else if j = k + 1 then some b else if j = k + 2 then some c else if j = k + 3 then some d else xs[j]? := by
  simp only [List.getElem?_set, List.length_set]
  repeat' split
  all_goals first | rfl | omega
/-- A row of its own whose children are made: made itself. -/
theorem row_made {w : World} {base : Nat} {v : Value} {ks : List Nd} {xs : List Value} (ho : w.ownsRow base 24 4 v ks.length xs) (he : Els ks xs (fun _ y A c => Kd.R kNd 24 w base (fun b => some b ≠ v.ownBlock) (.slice A y.f3.length c) y.f3)) : Kd.R kNd 24 w base (fun _ => True) v ks := by
  refine ⟨fun _ _ => trivial, xs, ho, ho.1, fun j y hj => ?_⟩
  obtain ⟨A, c, h1, h2⟩ := he j y hj
  have hlt := (List.getElem?_eq_some_iff.1 hj).1
  have hlen : xs.length = ks.length * 4 := ho.1
  have e : (xs.drop (j * 4)).take 4 = [Value.int .u8 y.f0, .int .i64 y.f1, .string y.f2, .slice A y.f3.length c] := by
    apply List.ext_getElem?
    intro i
    by_cases hi : i < 4
    · rw [List.getElem?_take_of_lt hi, List.getElem?_drop, h1 i hi]
    · rw [List.getElem?_eq_none (by rw [List.length_take]; omega), List.getElem?_eq_none (by simp; omega)]
  show (kNd).M w base _ y ((xs.drop (j * 4)).take 4)
  rw [e]
  exact k24_mkM w base _ y (Kd.R_mono h2 (fun k hk => ⟨trivial, hk⟩))
set_option maxHeartbeats 2000000 in
set_option maxRecDepth 100000 in
theorem cloneNd (A : Option Addr) (c : Nat) (ks : List Nd) (w0 w : World) (hb : Below w0.heap.size w0 w) (hA : Kd.C kNd w0 A ks.length ks) (hc : ks.length ≤ c) (hl : ks.length ≤ 1000000) :
    Calls Tryd.prog 92 #[.slice A ks.length c] w fun e w' => ∃ v' xs, e = .returned v' ∧ w'.ownsRow w.heap.size 24 4 v' ks.length xs ∧ (∀ u ∈ xs, u.oneCell' = true) ∧ Els ks xs (fun _ y A c => At w0 y A c) ∧ Below w.heap.size w w' := by
  have q22 : ∀ (w : World) (a : Option Addr) (n c n' c' : Nat), (binOp .eql 22 (.slice a n c) (.slice none n' c')).run Tryd.prog w = .ok (.bool a.isNone) w := fun w a n c n' c' => Lib.run_eql_slice_nil w _ _ a n c n' c' Tryd.underlying22
  cases A with
  | none =>
    have hk : ks = [] := by
      cases ks with
      | nil => rfl
      | cons y r => obtain ⟨ad, e, _⟩ := hA.2.2 (by simp); cases e
    subst hk
    clear hA
    go_enter Tryd.func92, Tryd.ntmps92
    go_wp2
    go_ret
    exact ⟨_, [], rfl, World.ownsRow_nil _ _ _ _, fun u hu => (by cases hu), fun j y hj => by simp at hj, Below.refl _ _⟩
  | some ad =>
    obtain ⟨cs, hR, hcell⟩ : ∃ cs, RowOf w0 ks cs ∧ ∀ k d, cs[k]? = some d → ∀ i u, d[i]? = some u → w0.cell? (ad.add (k * 4 + i)) = some u := by
      by_cases h0 : ks.length = 0
      · have : ks = [] := List.eq_nil_of_length_eq_zero h0
        subst this
        exact ⟨[], RowOf.nil w0, fun k d h => by simp at h⟩
      · obtain ⟨ad', cs, e, h1, h2⟩ := row_of (at_of hA hc) h0
        cases e
        exact ⟨cs, h1, h2⟩
    have HR := Aside0.mk hR
    have HC := Aside0.mk (fun j u h => pw_cell_below hb (row_news hR.four hcell j u h))
    have HL := Aside0.mk hl
    clear hR hcell hA hl
    obtain ⟨i0, hi, hzz⟩ := Option.map_eq_some_iff.1 info24
    simp only [Prod.mk.injEq] at hzz
    obtain ⟨hz0, hz1, hz2⟩ := hzz
    go_enter Tryd.func92, Tryd.ntmps92
    go_wp2_with (at_builtin; refine wpList_append_own _ rfl _ _ 22 rfl w.heap.size 24 i0 _ 4 56 Tryd.underlying22 hi hz0 hz1 hz2 rfl (by decide) _ _ _ rfl (World.ownsRow_made w #[] 0 (Nat.le_refl _) (Nat.zero_le _) rfl) ad ks.length c cs.flatten rfl ?qc1 ?qc2 ?qc3 ?qc4 ?qc5 ?qc6 ?_)
    case qc1 => rw [flat_len _ HR.out.four, HR.out.len]
    case qc2 =>
      intro j u hj
      exact Lib.cell?_alloc_some _ (HC.out j u hj)
    case qc3 => intro u hu; obtain ⟨d, h1, h2⟩ := List.mem_flatten.1 hu; exact HR.out.oneC d h1 u h2
    case qc4 => have := HL.out; unfold maxLen; omega
    case qc5 => have := HL.out; omega
    case qc6 => simp
    intro v' w1 hown hgrow hnil
    go_wp2
    go_ret
    refine ⟨v', cs.flatten, rfl, ?_, fun u hu => (by obtain ⟨d, h1, h2⟩ := List.mem_flatten.1 hu; exact HR.out.oneC d h1 u h2), els_of_rows HR.out, ?_⟩
    · simpa using hown
    · exact ((Below.refl _ w).alloc (Nat.le_refl _) _).grown hgrow (by simp) (by intro k hk; simp [Value.ownBlock] at hk; omega)
end Go.Proofs.YtmdbbfoejmakdaaDoor.Ha

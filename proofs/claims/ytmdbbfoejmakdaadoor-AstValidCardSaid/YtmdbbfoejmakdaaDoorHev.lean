/-
  Plain laws: the printed functions count, Big, Size, Depth, Nest of the reference answer what szN, dpN, neN say. By this session, out of its own program (wip/gen).
-/
import Derived.Test.YtmdbbfoejmakdaaDoorHast
import Derived.Test.YtmdbbfoejmakdaaDoorPx10
namespace Go.Proofs.YtmdbbfoejmakdaaDoor.Ha
open Go.RowKit Go.Proofs.YtmdbbfoejmakdaaDoorW.PrintWords Go.Proofs.YtmdbbfoejmakdaaDoorW.PrintLast Go.Proofs.YtmdbbfoejmakdaaDoorW.PrintMore Go.Proofs.YtmdbbfoejmakdaaDoor.P
set_option linter.unusedVariables false
set_option linter.unusedSimpArgs false

/-- From some number on. -/
def Ev (P : Nat → Prop) : Prop := ∃ K, ∀ k, K ≤ k → P k
theorem Ev.and {P Q : Nat → Prop} (h : Ev P) (g : Ev Q) : Ev fun k => P k ∧ Q k := by
  obtain ⟨a, h⟩ := h
  obtain ⟨b, g⟩ := g
  exact ⟨max a b, fun k hk => ⟨h k (by omega), g k (by omega)⟩⟩
theorem Ev.mono {P Q : Nat → Prop} (h : Ev P) (g : ∀ k, P k → Q k) : Ev Q := by
  obtain ⟨a, h⟩ := h
  exact ⟨a, fun k hk => g k (h k hk)⟩
theorem Ev.all {P : Nat → Prop} (h : ∀ k, P k) : Ev P := ⟨0, fun k _ => h k⟩
theorem Ev.succ {P : Nat → Prop} (h : Ev fun k => P (k + 1)) : Ev P := by
  obtain ⟨a, h⟩ := h
  refine ⟨a + 1, fun k hk => ?_⟩
  cases k with
  | zero => omega
  | succ k => exact h k (by omega)
theorem Ev.ex {P : Nat → Prop} (h : Ev P) : ∃ k, P k := by
  obtain ⟨a, h⟩ := h
  exact ⟨a, h a (Nat.le_refl _)⟩
/-- A loop, from its end backwards. -/
theorem ev_loop {R : Type} (P : R → Prop) (n : Nat) (L : Nat → Nat → Option R) (Inv : Nat → Prop)
    (hend : Inv n → ∃ r, P r ∧ Ev fun k => L (k + 1) n = some r)
    (hstep : ∀ i, i < n → Inv i → (∃ r, P r ∧ Ev fun k => L (k + 1) i = some r) ∨ (Inv (i + 1) ∧ Ev fun k => L (k + 1) i = L k (i + 1)))
    (h0 : Inv 0) : ∃ r, P r ∧ Ev fun k => L k 0 = some r := by
  have H : ∀ d i, i + d = n → Inv i → ∃ r, P r ∧ Ev fun k => L k i = some r := by
    intro d
    induction d with
    | zero =>
      intro i hi hI
      obtain rfl : i = n := by omega
      obtain ⟨r, hP, he⟩ := hend hI
      exact ⟨r, hP, Ev.succ he⟩
    | succ d ih =>
      intro i hi hI
      rcases hstep i (by omega) hI with ⟨r, hP, he⟩ | ⟨hI2, he⟩
      · exact ⟨r, hP, Ev.succ he⟩
      · obtain ⟨r, hP, hr⟩ := ih (i + 1) (by omega) hI2
        exact ⟨r, hP, Ev.succ ((he.and hr).mono fun k h => by rw [h.1, h.2])⟩
  exact H n 0 (by omega) h0
theorem rd_get {ks : List Nd} {i : Nat} (h : i < ks.length) : rd_T24 ks (i : Int) = ks[i] := by simp [rd_T24, List.getD_eq_getElem?_getD, List.getElem?_eq_getElem h]
theorem get_some {ks : List Nd} {i : Nat} (h : i < ks.length) : ks[i]? = some ks[i] := List.getElem?_eq_getElem h

/-- Within the bound the count is the tree's number of nodes. -/
def CntOk (x : Nd) (d : Int) (v : Int) : Prop := 1 ≤ v ∧ v ≤ 1000 ∧ (v < 1000 → v = szN x ∧ (dpN x : Int) ≤ d)
theorem cnt1000 (x : Nd) (d : Int) : CntOk x d 1000 := ⟨by decide, by decide, fun h => absurd h (by decide)⟩
theorem ca1 {s : Nat} {v : Int} (h : 1 + s < 1000) (h0 : 1 ≤ v) (h1 : v ≤ 1000) : wrap64 (((1 + s : Nat) : Int) + v) = ((1 + s : Nat) : Int) + v := w64 (by omega) (by omega)
theorem ca2 {i l s : Nat} (h4 : min i l ≤ s) (hi : i < l) (h : 1 + s < 1000) : wrap64 ((i : Int) + 1) = ((i + 1 : Nat) : Int) := by rw [w64] <;> omega
theorem ca3 {s s1 z : Nat} {v : Int} (h2 : s1 = s + z) (h3 : v = z) : ((1 + s : Nat) : Int) + v = ((1 + s1 : Nat) : Int) := by omega
theorem ca4 {i l s s1 z p p1 q : Nat} {v d : Int} (hi : i < l) (h2 : s1 = s + z) (h3 : p1 = max p q) (hv3 : v = z) (hv4 : (q : Int) ≤ d - 1) (hI2 : (p : Int) ≤ d - 1) (hb : ¬ ((1 + s : Nat) : Int) + v ≥ 1000) : i + 1 ≤ l ∧ 1 + s1 < 1000 ∧ (p1 : Int) ≤ d - 1 := by omega
theorem ca5 {s : Nat} {v : Int} (h0 : ¬ ((1 + s : Nat) : Int) + v ≥ 1000) : v < 1000 := by omega
theorem count_step (k : Nat) (d s v : Int) (ks : List Nd) (i : Nat) (hi : i < ks.length) (hd0 : 1 ≤ d) (hd : d ≤ 1000) (hv : ontimelaw12_count.f k ks[i].f0 ks[i].f1 ks[i].f2 ks[i].f3 (d - 1) = some v) :
    ontimelaw12_count.l0 (k + 1) d s ks (ks.length : Int) (i : Int) = if wrap64 (s + v) ≥ 1000 then some 1000 else ontimelaw12_count.l0 k d (wrap64 (s + v)) ks (ks.length : Int) (wrap64 ((i : Int) + 1)) := by
  simp only [ontimelaw12_count.l0]
  rw [if_pos (by omega), if_pos (by omega), if_pos (by omega), rd_get hi, w64 (x := d - 1) (by omega) (by omega), hv]
  rfl
theorem count_end (k : Nat) (d s : Int) (ks : List Nd) : ontimelaw12_count.l0 (k + 1) d s ks (ks.length : Int) (ks.length : Int) = some s := by
  simp only [ontimelaw12_count.l0]
  rw [if_neg (by omega)]
set_option maxHeartbeats 1000000 in
theorem count_ok : ∀ (n : Nat) (x : Nd), SizeOf.sizeOf x ≤ n → ∀ d : Int, d ≤ 1000 → ∃ v, CntOk x d v ∧ Ev fun k => ontimelaw12_count.f k x.f0 x.f1 x.f2 x.f3 d = some v := by
  intro n
  induction n with
  | zero => intro x hn; exact absurd hn (by cases x; simp)
  | succ n ih =>
    intro x hn d hd
    have hsz := szN_eq x
    have hdp := dpN_eq x
    by_cases h0 : d < 1
    · exact ⟨1000, cnt1000 x d, Ev.succ (Ev.all fun k => by simp only [ontimelaw12_count.f]; rw [if_pos h0])⟩
    · obtain ⟨v, hP, h⟩ := ev_loop (CntOk x d) x.f3.length (fun k i => ontimelaw12_count.l0 k d (1 + szL (x.f3.take i) : Nat) x.f3 (x.f3.length : Int) (i : Int)) (fun i => i ≤ x.f3.length ∧ 1 + szL (x.f3.take i) < 1000 ∧ (dpL (x.f3.take i) : Int) ≤ d - 1)
        (fun hI => by
          obtain ⟨_, hI1, hI2⟩ := hI
          rw [List.take_length] at hI1 hI2
          exact ⟨((1 + szL x.f3 : Nat) : Int), ⟨by omega, by omega, fun _ => ⟨by omega, by omega⟩⟩, Ev.all fun k => by rw [List.take_length]; exact count_end k d _ x.f3⟩)
        (fun i hi hI => by
          have hm := List.getElem_mem hi
          have h2 := szL_take x.f3 i x.f3[i] (get_some hi)
          have h3 := dpL_take x.f3 i x.f3[i] (get_some hi)
          have h4 := szL_len (x.f3.take i)
          rw [List.length_take] at h4
          obtain ⟨hI0, hI1, hI2⟩ := hI
          obtain ⟨v, ⟨hv0, hv1, hv2⟩, hv⟩ := ih x.f3[i] (by have := kid_lt hm; omega) (d - 1) (by omega)
          clear ih hn hsz hdp hm
          have e1 : wrap64 (((1 + szL (x.f3.take i) : Nat) : Int) + v) = ((1 + szL (x.f3.take i) : Nat) : Int) + v := ca1 hI1 hv0 hv1
          have e2 : wrap64 ((i : Int) + 1) = ((i + 1 : Nat) : Int) := ca2 h4 hi hI1
          have hs := hv.mono (fun k hk => count_step k d ((1 + szL (x.f3.take i) : Nat) : Int) v x.f3 i hi (by omega) hd hk)
          rw [e1, e2] at hs
          by_cases hb : ((1 + szL (x.f3.take i) : Nat) : Int) + v ≥ 1000
          · exact Or.inl ⟨1000, cnt1000 x d, hs.mono fun k hk => by rw [hk, if_pos hb]⟩
          · obtain ⟨hv3, hv4⟩ := hv2 (ca5 hb)
            have e3 : ((1 + szL (x.f3.take i) : Nat) : Int) + v = ((1 + szL (x.f3.take (i + 1)) : Nat) : Int) := ca3 h2 hv3
            have hI3 : i + 1 ≤ x.f3.length ∧ 1 + szL (x.f3.take (i + 1)) < 1000 ∧ (dpL (x.f3.take (i + 1)) : Int) ≤ d - 1 := ca4 hi h2 h3 hv3 hv4 hI2 hb
            exact Or.inr ⟨hI3, hs.mono fun k hk => by rw [hk, if_neg hb, e3]⟩)
        ⟨by omega, by simp [szL], by simp [dpL]; omega⟩
      refine ⟨v, hP, Ev.succ (h.mono fun k hk => ?_)⟩
      simp only [ontimelaw12_count.f]
      rw [if_neg h0, ← hk]
      simp [szL]

/-- A tree within the bound has at most 500 nodes and is at most 40 deep. -/
theorem big_ok (x : Nd) : (Ev fun k => ontimelaw12_Big.f k x.f0 x.f1 x.f2 x.f3 = some 1) ∨ ((Ev fun k => ontimelaw12_Big.f k x.f0 x.f1 x.f2 x.f3 = some 0) ∧ szN x ≤ 500 ∧ dpN x ≤ 40) := by
  obtain ⟨v, ⟨h0, h1, h2⟩, hv⟩ := count_ok _ x (Nat.le_refl _) 40 (by omega)
  by_cases hb : v > 500
  · exact Or.inl (hv.mono fun k hk => by unfold ontimelaw12_Big.f; rw [hk]; simp only [Option.bind_some]; rw [if_pos hb])
  · have := h2 (by omega)
    exact Or.inr ⟨hv.mono fun k hk => by unfold ontimelaw12_Big.f; rw [hk]; simp only [Option.bind_some]; rw [if_neg hb], by omega, by omega⟩

end Go.Proofs.YtmdbbfoejmakdaaDoor.Ha

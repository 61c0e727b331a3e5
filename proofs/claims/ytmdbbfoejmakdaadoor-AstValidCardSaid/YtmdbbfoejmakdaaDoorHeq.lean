/-
  Trees are equal: the contracts of ast.Equal and of the reference's Equal. By this session, out of its own program (wip/gen).
-/
import Derived.Test.YtmdbbfoejmakdaaDoorHev
import Derived.Test.YtmdbbfoejmakdaaDoorHfun
import Derived.Test.YtmdbbfoejmakdaaDoorPx7
namespace Go.Proofs.YtmdbbfoejmakdaaDoor.Ha
open Go.RowKit Go.Proofs.YtmdbbfoejmakdaaDoorW.PrintWords Go.Proofs.YtmdbbfoejmakdaaDoorW.PrintLast Go.Proofs.YtmdbbfoejmakdaaDoorW.PrintMore Go.Proofs.YtmdbbfoejmakdaaDoor.P
set_option linter.unusedVariables false
set_option linter.unusedSimpArgs false
mutual
/-- Whether two trees are equal. -/
def eqN : Nd → Nd → Bool
  | ⟨k, n, s, ks⟩, y => k == y.f0 && n == y.f1 && s.toList == y.f2.toList && eqL ks y.f3
def eqL : List Nd → List Nd → Bool
  | [], [] => true
  | x :: r, y :: t => eqN x y && eqL r t
  | _, _ => false
end
theorem eqL_zip (l m : List Nd) : eqL l m = zipAll eqN l m := by
  induction l generalizing m with
  | nil => cases m <;> simp [eqL, zipAll]
  | cons x r ih => cases m with
    | nil => simp [eqL, zipAll]
    | cons y s => rw [eqL, zipAll, ih]
theorem eqN_eq (x y : Nd) : eqN x y = (x.f0 == y.f0 && x.f1 == y.f1 && x.f2.toList == y.f2.toList && eqL x.f3 y.f3) := by cases x; rw [eqN]
theorem bytes_ext {a b : ByteArray} (h : a.toList = b.toList) : a = b := by
  rw [ByteArray.toList_eq, ByteArray.toList_eq] at h
  obtain ⟨⟨a⟩⟩ := a
  obtain ⟨⟨b⟩⟩ := b
  simp at h
  rw [h]
mutual
theorem eqN_iff : ∀ x y : Nd, eqN x y = true ↔ x = y
  | ⟨k, n, s, ks⟩, ⟨k', n', s', ks'⟩ => by
    rw [eqN]
    simp only [Bool.and_eq_true, beq_iff_eq]
    rw [eqL_iff ks ks']
    constructor
    · rintro ⟨⟨⟨rfl, rfl⟩, h⟩, rfl⟩
      rw [bytes_ext h]
    · intro h
      cases h
      exact ⟨⟨⟨rfl, rfl⟩, rfl⟩, rfl⟩
theorem eqL_iff : ∀ l m : List Nd, eqL l m = true ↔ l = m
  | [], [] => by simp [eqL]
  | [], _ :: _ => by simp [eqL]
  | _ :: _, [] => by simp [eqL]
  | x :: r, y :: t => by
    rw [eqL, Bool.and_eq_true, eqN_iff x y, eqL_iff r t]
    constructor
    · rintro ⟨rfl, rfl⟩; rfl
    · intro h; cases h; exact ⟨rfl, rfl⟩
end
theorem eqN_refl (x : Nd) : eqN x x = true := (eqN_iff x x).2 rfl
theorem eqN_symm (x y : Nd) : eqN x y = eqN y x := by
  rw [Bool.eq_iff_iff, eqN_iff, eqN_iff]
  exact ⟨fun h => h.symm, fun h => h.symm⟩
theorem eqL_len : ∀ (l m : List Nd), l.length ≠ m.length → eqL l m = false := by
  intro l m h
  rw [Bool.eq_false_iff]
  intro e
  exact h (by rw [(eqL_iff l m).1 e])
theorem refEqual : ∀ (n : Nat) (x y : Nd), SizeOf.sizeOf x ≤ n → szN x ≤ 1152921504606846976 → Ev fun k => ontimeref12_Equal.f k x.f0 x.f1 x.f2 x.f3 y.f0 y.f1 y.f2 y.f3 = some (eqN x y) := by
  intro n
  induction n with
  | zero => intro x y hn; exact absurd hn (by cases x; simp)
  | succ n ih =>
    intro x y hn hs
    have hsz := szN_eq x
    have hkl : x.f3.length ≤ szL x.f3 := szL_len x.f3
    have ex : ∀ a b c (d : Nat) (e : List Nd) a' b' c' (e' : List Nd), Ev fun k => ontimeref12_Equal.j0 k true a b c e a' b' c' e' = some false := fun a b c d e a' b' c' e' => ⟨1, fun k hk => by obtain ⟨j, rfl⟩ : ∃ j, k = j + 1 := ⟨k - 1, by omega⟩; rw [ontimeref12_Equal.j0, if_pos rfl]⟩
    by_cases e0 : x.f0 = y.f0
    · by_cases e1 : x.f1 = y.f1
      · by_cases e2 : x.f2.toList = y.f2.toList
        · have E : eqN x y = eqL x.f3 y.f3 := by rw [eqN_eq, e0, e1, e2]; simp
          by_cases el : x.f3.length = y.f3.length
          · obtain ⟨r, rfl, h⟩ := ev_loop (fun r => r = eqL x.f3 y.f3) x.f3.length (fun k i => ontimeref12_Equal.l0 k (i : Int) x.f0 x.f1 x.f2 x.f3 y.f0 y.f1 y.f2 y.f3) (fun i => eqL x.f3 y.f3 = eqL (x.f3.drop i) (y.f3.drop i))
              (fun hI => ⟨true, by rw [hI, List.drop_length, el, List.drop_length]; simp [eqL], Ev.all fun k => by simp only [ontimeref12_Equal.l0]; rw [if_neg (by omega)]⟩)
              (fun i hi hI => by
                have hi2 : i < y.f3.length := by omega
                rw [List.drop_eq_getElem_cons hi, List.drop_eq_getElem_cons hi2, eqL] at hI
                have hm := List.getElem_mem hi
                have h1 := szL_mem hm
                have hk := ih x.f3[i] y.f3[i] (by have := kid_lt hm; omega) (by omega)
                cases hb : eqN x.f3[i] y.f3[i]
                · rw [hb] at hk hI
                  exact Or.inl ⟨false, by rw [hI]; rfl, hk.mono fun k hk => by simp only [ontimeref12_Equal.l0]; rw [if_pos (by omega), if_pos (by omega), if_pos (by omega), rd_get hi, rd_get hi2, hk]; rfl⟩
                · rw [hb] at hk hI
                  exact Or.inr ⟨by rw [hI]; rfl, hk.mono fun k hk => by simp only [ontimeref12_Equal.l0]; rw [if_pos (by omega), if_pos (by omega), if_pos (by omega), rd_get hi, rd_get hi2, hk, w64 (by omega) (by omega)]; rfl⟩)
              (by simp)
            have hj : Ev fun k => ontimeref12_Equal.j0 k false x.f0 x.f1 x.f2 x.f3 y.f0 y.f1 y.f2 y.f3 = some (eqL x.f3 y.f3) := Ev.succ (h.mono fun k hk => by rw [ontimeref12_Equal.j0, if_neg (by decide)]; exact hk)
            refine Ev.succ (hj.mono fun k hk => ?_)
            rw [ontimeref12_Equal.f, if_pos e0, if_pos e1, if_pos e2, E, ← hk]
            have : ((x.f3.length : Int) != (y.f3.length : Int)) = false := by rw [el]; simp
            rw [this]
          · rw [E, eqL_len _ _ el]
            refine Ev.succ ((ex x.f0 x.f1 x.f2 0 x.f3 y.f0 y.f1 y.f2 y.f3).mono fun k hk => ?_)
            have : ((x.f3.length : Int) != (y.f3.length : Int)) = true := by simp; omega
            rw [ontimeref12_Equal.f, if_pos e0, if_pos e1, if_pos e2, this, hk]
        · have E : eqN x y = false := by
            rw [eqN_eq, beq_eq_false_iff_ne.mpr e2]; simp
          refine Ev.succ ((ex x.f0 x.f1 x.f2 0 x.f3 y.f0 y.f1 y.f2 y.f3).mono fun k hk => ?_)
          rw [ontimeref12_Equal.f, if_pos e0, if_pos e1, if_neg e2, E, hk]
      · have E : eqN x y = false := by
          rw [eqN_eq, beq_eq_false_iff_ne.mpr e1]; simp
        refine Ev.succ ((ex x.f0 x.f1 x.f2 0 x.f3 y.f0 y.f1 y.f2 y.f3).mono fun k hk => ?_)
        rw [ontimeref12_Equal.f, if_pos e0, if_neg e1, E, hk]
    · have E : eqN x y = false := by
        rw [eqN_eq, beq_eq_false_iff_ne.mpr e0]; simp
      refine Ev.succ ((ex x.f0 x.f1 x.f2 0 x.f3 y.f0 y.f1 y.f2 y.f3).mono fun k hk => ?_)
      rw [ontimeref12_Equal.f, if_neg e0, E, hk]
theorem rEqual (x y : Nd) (hs : szN x ≤ 1152921504606846976) (A A2 : Option Addr) (c c2 : Nat) (w : World) (hA : At w x A c) (hA2 : At w y A2 c2) :
    Calls Tryd.prog 38 #[nodeV x A c, nodeV y A2 c2] w fun e w' => e = .returned (.bool (eqN x y)) ∧ Below w.heap.size w w' := by
  obtain ⟨k, hk⟩ := (refEqual _ x y (Nat.le_refl _) hs).ex
  exact ontimeref12_Equal.calls k x.f0 x.f1 x.f2 A c x.f3 y.f0 y.f1 y.f2 A2 c2 y.f3 _ w hA.1 hA.2 hA2.1 hA2.2 hk
theorem enter_Equal (args : Array Value) (w : World) : (callFunc 40 args).run Tryd.prog w = .ok (.enter 40 args) w := by go_simp
set_option maxHeartbeats 4000000 in
set_option maxRecDepth 100000 in
theorem equal_n : ∀ (n : Nat) (x y : Nd) (A A2 : Option Addr) (c c2 : Nat) (w : World), SizeOf.sizeOf x ≤ n → At w x A c → At w y A2 c2 →
    Calls Tryd.prog 40 #[nodeV x A c, nodeV y A2 c2] w fun e w' => e = .returned (.bool (eqN x y)) ∧ Below w.heap.size w w' := by
  intro n
  induction n with
  | zero => intro x y A A2 c c2 w hn; exact absurd hn (by cases x; simp)
  | succ n ih =>
    rintro ⟨a0, a1, a2, ks⟩ ⟨b0, b1, b2, ms⟩ A A2 c c2 w hn hA hA2
    have hk : ∀ (x y : Nd) (A' : Option Addr) (c' : Nat) (A'' : Option Addr) (c'' : Nat) (w' : World), x ∈ ks → y ∈ ms → Below w.heap.size w w' → At w' x A' c' → At w' y A'' c'' → Calls Tryd.prog 40 #[nodeV x A' c', nodeV y A'' c''] w' fun e w'' => e = .returned (.bool (eqN x y)) ∧ Below w'.heap.size w' w'' := fun x y A' c' A'' c'' w' hx hy hb h1 h2 =>
      ih x y A' A'' c' c'' w' (by have h2 := kid_lt (x := ⟨a0, a1, a2, ks⟩) (y := x) hx; omega) h1 h2
    have E : eqN ⟨a0, a1, a2, ks⟩ ⟨b0, b1, b2, ms⟩ = (a0 == b0 && a1 == b1 && a2.toList == b2.toList && zipAll eqN ks ms) := by rw [eqN_eq, eqL_zip]
    have HE := Aside0.mk E
    have HK := Aside0.mk hk
    have HC := Aside0.mk hA.1
    have HC2 := Aside0.mk hA2.1
    have hb2 : Below w.heap.size w ((w.alloc (.cells #[.int .u8 a0, .int .i64 a1, .string a2, .slice A ks.length c] 24)).alloc (.cells #[.int .u8 b0, .int .i64 b1, .string b2, .slice A2 ms.length c2] 24)) := ((Below.refl _ _).alloc (Nat.le_refl _) _).alloc (by rw [World.size_alloc]; omega) _
    have HB2 := Aside0.mk hb2
    clear E hk ih hA hA2 hb2
    cases e0 : a0 == b0
    · rw [e0] at HE
      go_enter Tryd.func40, Tryd.ntmps40
      go_wp2_with fail
      go_ret
      exact ⟨bret (by rw [HE.out]; rfl), HB2.out⟩
    · cases e1 : a1 == b1
      · rw [e0, e1] at HE
        go_enter Tryd.func40, Tryd.ntmps40
        go_wp2_with fail
        go_ret
        exact ⟨bret (by rw [HE.out]; rfl), HB2.out⟩
      · cases e2 : a2.toList == b2.toList
        · rw [e0, e1, e2] at HE
          go_enter Tryd.func40, Tryd.ntmps40
          go_wp2_with fail
          go_ret
          exact ⟨bret (by rw [HE.out]; rfl), HB2.out⟩
        · rw [e0, e1, e2] at HE
          go_enter Tryd.func40, Tryd.ntmps40
          go_wp2_with fail
          refine (equalN 40 enter_Equal eqN A c A2 c2 ks ms _ (fun x y A' c' A'' c'' w' hx hy hb h1 h2 => HK.out x y A' c' A'' c'' w' hx hy (HB2.out.trans (hb.mono HB2.out.size)) h1 h2) (C_keep HC.out HB2.out) (C_keep HC2.out HB2.out)).mono ?_
          rintro e w' ⟨rfl, hB⟩
          have HB := Aside0.mk hB
          clear hB
          go_wp2
          go_ret
          exact ⟨bret (by rw [HE.out]; rfl), HB2.out.trans (HB.out.mono HB2.out.size)⟩
end Go.Proofs.YtmdbbfoejmakdaaDoor.Ha

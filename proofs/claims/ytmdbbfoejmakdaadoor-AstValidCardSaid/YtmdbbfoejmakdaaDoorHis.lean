/-
  The contract of (checker).is: a tree belongs to a category just as isN says. By this session, out of its own program (wip/gen).
-/
import Derived.Test.YtmdbbfoejmakdaaDoorHform2
import Derived.Test.YtmdbbfoejmakdaaDoorHlex
namespace Go.Proofs.YtmdbbfoejmakdaaDoor.Ha
open Go.RowKit Go.Proofs.YtmdbbfoejmakdaaDoorW.PrintWords Go.Proofs.YtmdbbfoejmakdaaDoorW.PrintLast Go.Proofs.YtmdbbfoejmakdaaDoorW.PrintMore Go.Proofs.YtmdbbfoejmakdaaDoor.P Go.Maps
set_option linter.unusedVariables false
set_option linter.unusedSimpArgs false
open Hl

def andB (a b : Int) : Bool := bits BinOp.and IntKind.u8 a b != 0
mutual
/-- Whether a tree belongs to a category. -/
def isN : Nd → Int → Bool
  | ⟨k, num, nm, ks⟩, want =>
    if k = 47 then andB want 8 && (num == 0) && nm.toList.isEmpty && isAll ks
    else match formK 24 k with
      | none => false
      | some f => andB f.is want && !decide (num < f.lo) && !decide (f.hi < num) && (if f.name then nameB nm else nm.toList.isEmpty) && isZip ks f.kids
def isAll : List Nd → Bool
  | [] => true
  | x :: r => isN x 4 && isAll r
def isZip : List Nd → List Int → Bool
  | [], [] => true
  | x :: r, y :: s => isN x y && isZip r s
  | _, _ => false
end
theorem isAll_eq (l : List Nd) : isAll l = l.all fun x => isN x 4 := by
  induction l with
  | nil => rfl
  | cons x r ih => rw [isAll, ih]; rfl
theorem isZip_eq (l : List Nd) (m : List Int) : isZip l m = zipAll isN l m := by
  induction l generalizing m with
  | nil => cases m <;> simp [isZip, zipAll]
  | cons x r ih => cases m with
    | nil => simp [isZip, zipAll]
    | cons y s => rw [isZip, zipAll, ih]
theorem enter_is (args : Array Value) (w : World) : (callFunc 84 args).run Tryd.prog w = .ok (.enter 84 args) w := by go_simp
theorem enter_is1 (args : Array Value) (w : World) : (callFunc 116 args).run Tryd.prog w = .ok (.enter 116 args) w := by go_simp
set_option maxHeartbeats 2000000 in
theorem is1 (x : Nd) (A : Option Addr) (c : Nat) (B p : Nat) (r : Bool) (w : World) (hp : w.cell? ⟨p, 0, none⟩ = some (.map (some B))) (hlt : p < w.heap.size)
    (h : ∀ w', Below w.heap.size w w' → Calls Tryd.prog 84 #[.map (some B), nodeV x A c, .int .u8 4] w' fun e w'' => e = .returned (.bool r) ∧ Below w'.heap.size w' w'') :
    Calls Tryd.prog 116 #[nodeV x A c, .pointer (some ⟨p, 0, none⟩)] w fun e w' => e = .returned (.bool (!r)) ∧ Below w.heap.size w w' := by
  have H := Aside0.mk h
  clear h
  have hp2 : (w.alloc (.cells #[.int .u8 x.f0, .int .i64 x.f1, .string x.f2, .slice A x.f3.length c] 24)).cell? ⟨p, 0, none⟩ = some (.map (some B)) := (((Below.refl _ w).alloc (Nat.le_refl _) _).cell (p := ⟨p, 0, none⟩) hlt).trans hp
  clear hp
  go_enter Tryd.func116, Tryd.ntmps116
  go_wp2_with fail
  refine (H.out _ ((Below.refl _ _).alloc (Nat.le_refl _) _)).mono ?_
  rintro e w' ⟨rfl, hB⟩
  have HB := Aside0.mk hB
  clear hB
  go_wp2
  go_ret
  exact ⟨rfl, ((Below.refl _ _).alloc (Nat.le_refl _) _).trans (HB.out.mono (by rw [World.size_alloc]; omega))⟩
set_option maxHeartbeats 4000000 in
set_option maxRecDepth 100000 in
theorem is_block (a1 : Int) (a2 : ByteArray) (want : Int) (A : Option Addr) (c : Nat) (ks : List Nd) (B : Nat) (w : World) (hC : Kd.C kNd w A ks.length ks)
    (hk : ∀ (x : Nd) (A' : Option Addr) (c' : Nat) (w' : World), x ∈ ks → Below w.heap.size w w' → At w' x A' c' → Calls Tryd.prog 84 #[.map (some B), nodeV x A' c', .int .u8 4] w' fun e w'' => e = .returned (.bool (isN x 4)) ∧ Below w'.heap.size w' w'') :
    Calls Tryd.prog 84 #[.map (some B), .agg #[.int .u8 47, .int .i64 a1, .string a2, .slice A ks.length c], .int .u8 want] w fun e w' => e = .returned (.bool (isN ⟨47, a1, a2, ks⟩ want)) ∧ Below w.heap.size w w' := by
  have E : isN ⟨47, a1, a2, ks⟩ want = ((bits BinOp.and IntKind.u8 want 8 != 0) && (a1 == 0) && a2.toList.isEmpty && ks.all fun x => isN x 4) := by rw [isN, if_pos rfl, isAll_eq]; rfl
  have HE := Aside0.mk E
  have HC := Aside0.mk hC
  have HK := Aside0.mk hk
  clear E hC hk
  by_cases h1 : (bits BinOp.and IntKind.u8 want 8 != 0) = true
  · by_cases h2 : a1 = 0
    · subst h2
      by_cases h3 : a2.toList = []
      · have HE := Aside0.mk (show isN ⟨47, 0, a2, ks⟩ want = !(ks.any fun x => !isN x 4) by rw [HE.out, h1, h3]; simp [List.all_eq_not_any_not])
        have h3e : a2.toList.isEmpty = true := by rw [h3]; rfl
        go_enter Tryd.func84, Tryd.ntmps84
        go_wp2_with fail
        refine (containsF 116 #[] #[.pointer (some ⟨w.heap.size, 0, none⟩)] enter_is1 (fun x => !isN x 4) A c ks _ (fun x A' c' w' hx hb ha => is1 x A' c' B w.heap.size (isN x 4) w' ?_ ?_ (fun w'' hb2 => HK.out x A' c' w'' hx ?_ (ha.below hb2))) (C_keep HC.out ?_)).mono ?_
        · exact (hb.cell (p := ⟨w.heap.size, 0, none⟩) (by simp; omega)).trans (by rw [((Below.refl _ (w.alloc _)).alloc (Nat.le_refl _) _).cell (p := ⟨w.heap.size, 0, none⟩) (by simp)]; exact World.cell?_alloc_mark w _ _ (0, 0) 0)
        · exact Nat.lt_of_lt_of_le (by simp; omega) hb.size
        · exact (((Below.refl _ _).alloc (Nat.le_refl _) _).alloc (by rw [World.size_alloc]; omega) _).trans ((hb.trans (hb2.mono hb.size)).mono (by simp; omega))
        · exact ((Below.refl _ _).alloc (Nat.le_refl _) _).alloc (by rw [World.size_alloc]; omega) _
        · rintro e w' ⟨rfl, hB⟩
          have HB := Aside0.mk hB
          clear hB
          go_wp2
          go_ret
          exact ⟨bret HE.out.symm, (((Below.refl _ _).alloc (Nat.le_refl _) _).alloc (by rw [World.size_alloc]; omega) _).trans (HB.out.mono (by simp; omega))⟩
      · have HE := Aside0.mk (show isN ⟨47, 0, a2, ks⟩ want = false by rw [HE.out]; simp [h3])
        have h3e : a2.toList.isEmpty = false := by cases hh : a2.toList with
          | nil => exact absurd hh h3
          | cons _ _ => rfl
        go_enter Tryd.func84, Tryd.ntmps84
        go_wp2_with fail
        go_ret
        exact ⟨bret HE.out.symm, ((Below.refl _ _).alloc (Nat.le_refl _) _).alloc (by rw [World.size_alloc]; omega) _⟩
    · have hb2 : (a1 == 0) = false := beq_eq_false_iff_ne.mpr h2
      have HE := Aside0.mk (show isN ⟨47, a1, a2, ks⟩ want = false by rw [HE.out, hb2]; simp)
      go_enter Tryd.func84, Tryd.ntmps84
      go_wp2_with fail
      go_ret
      exact ⟨bret HE.out.symm, ((Below.refl _ _).alloc (Nat.le_refl _) _).alloc (by rw [World.size_alloc]; omega) _⟩
  · have hb1 : (bits BinOp.and IntKind.u8 want 8 != 0) = false := by simpa using h1
    have HE := Aside0.mk (show isN ⟨47, a1, a2, ks⟩ want = false by rw [HE.out, hb1]; simp)
    go_enter Tryd.func84, Tryd.ntmps84
    go_wp2_with fail
    go_ret
    exact ⟨bret HE.out.symm, ((Below.refl _ _).alloc (Nat.le_refl _) _).alloc (by rw [World.size_alloc]; omega) _⟩
set_option maxHeartbeats 4000000 in
set_option maxRecDepth 100000 in
theorem is_none (a0 a1 : Int) (a2 : ByteArray) (want : Int) (A : Option Addr) (c : Nat) (ks : List Nd) (B n : Nat) (w : World) (hM : MapAt w B n (formK 24)) (hwf : (Lit.int .u8 a0).wf = true) (h47 : a0 ≠ 47) (hF : formK 24 a0 = none) :
    Calls Tryd.prog 84 #[.map (some B), .agg #[.int .u8 a0, .int .i64 a1, .string a2, .slice A ks.length c], .int .u8 want] w fun e w' => e = .returned (.bool (isN ⟨a0, a1, a2, ks⟩ want)) ∧ Below w.heap.size w w' := by
  have HE : Aside0 (isN ⟨a0, a1, a2, ks⟩ want = false) := ⟨by rw [isN, if_neg h47, hF]⟩
  have hb47 : (a0 == 47) = false := beq_eq_false_iff_ne.mpr h47
  have hM2 := hM.below (((Below.refl _ w).alloc (Nat.le_refl _) (.cells #[.map (some B)] 87)).alloc (by rw [World.size_alloc]; omega) (.cells #[.int .u8 a0, .int .i64 a1, .string a2, .slice A ks.length c] 24))
  rcases hM2.look (t := 87) Tryd.underlying87 a0 hwf with ⟨_, hrun⟩ | ⟨f, s, h, _⟩
  · clear hM hM2 hF
    go_enter Tryd.func84, Tryd.ntmps84
    go_wp2_with fail
    go_ret
    exact ⟨bret HE.out.symm, (((Below.refl _ _).alloc (Nat.le_refl _) _).alloc (by rw [World.size_alloc]; omega) _).alloc (by simp; omega) _⟩
  · rw [hF] at h; cases h
set_option maxHeartbeats 4000000 in
set_option maxRecDepth 100000 in
theorem is_some1 (a0 a1 : Int) (a2 : ByteArray) (want : Int) (A : Option Addr) (c : Nat) (ks : List Nd) (B n : Nat) (w : World) (hM : MapAt w B n (formK 24)) (hwf : (Lit.int .u8 a0).wf = true) (h47 : a0 ≠ 47) (f : Form) (hF : formK 24 a0 = some f) (hl : f.kids.length ≤ 9223372036854775807)
    (hbad : (andB f.is want && !decide (a1 < f.lo) && !decide (f.hi < a1)) = false) :
    Calls Tryd.prog 84 #[.map (some B), .agg #[.int .u8 a0, .int .i64 a1, .string a2, .slice A ks.length c], .int .u8 want] w fun e w' => e = .returned (.bool (isN ⟨a0, a1, a2, ks⟩ want)) ∧ Below w.heap.size w w' := by
  have E : isN ⟨a0, a1, a2, ks⟩ want = (andB f.is want && !decide (a1 < f.lo) && !decide (f.hi < a1) && (if f.name then nameB a2 else a2.toList.isEmpty) && isZip ks f.kids) := by rw [isN, if_neg h47, hF]
  have HE := Aside0.mk E
  clear E
  have hb47 : (a0 == 47) = false := beq_eq_false_iff_ne.mpr h47
  have hM2 := hM.below (((Below.refl _ w).alloc (Nat.le_refl _) (.cells #[.map (some B)] 87)).alloc (by rw [World.size_alloc]; omega) (.cells #[.int .u8 a0, .int .i64 a1, .string a2, .slice A ks.length c] 24))
  rcases hM2.look (t := 87) Tryd.underlying87 a0 hwf with ⟨h, _⟩ | ⟨f', s, h, hK, hrun⟩
  · rw [hF] at h; cases h
  obtain rfl : f = f' := Option.some.inj (hF.symm.trans h)
  obtain ⟨A2, rfl, hC2⟩ := hK.list hl
  have HC2 := Aside0.mk hC2
  clear hM hM2 hF h hK hC2
  have HE2 : Aside0 (isN ⟨a0, a1, a2, ks⟩ want = false) := ⟨by rw [HE.out, hbad]; simp⟩
  clear HE
  unfold andB at hbad
  obtain ⟨is, nm, lo, hi, kids⟩ := f
  simp only at hbad hrun HC2 HE2
  generalize kids.length = m at *
  by_cases h1 : (bits BinOp.and IntKind.u8 is want == 0) = true
  · clear hbad
    go_enter Tryd.func84, Tryd.ntmps84
    go_wp2_with fail
    go_ret
    exact ⟨bret HE2.out.symm, (((Below.refl _ _).alloc (Nat.le_refl _) _).alloc (by rw [World.size_alloc]; omega) _).alloc (by simp; omega) _⟩
  · have h1 : (bits BinOp.and IntKind.u8 is want == 0) = false := by simpa using h1
    by_cases h2 : a1 < lo
    · clear hbad
      go_enter Tryd.func84, Tryd.ntmps84
      go_wp2_with fail
      go_ret
      exact ⟨bret HE2.out.symm, (((Below.refl _ _).alloc (Nat.le_refl _) _).alloc (by rw [World.size_alloc]; omega) _).alloc (by simp; omega) _⟩
    · have h3 : hi < a1 := by
        have e : (bits BinOp.and IntKind.u8 is want != 0) = true := by rw [bne, h1]; rfl
        rw [e] at hbad
        simpa [h2] using hbad
      clear hbad
      go_enter Tryd.func84, Tryd.ntmps84
      go_wp2_with fail
      go_ret
      exact ⟨bret HE2.out.symm, (((Below.refl _ _).alloc (Nat.le_refl _) _).alloc (by rw [World.size_alloc]; omega) _).alloc (by simp; omega) _⟩
theorem boxes3 (w : World) (c0 c1 c2 : Array Value) (t0 t1 t2 : TypeId) :
    (∀ j, (((w.alloc (.cells c0 t0)).alloc (.cells c1 t1)).alloc (.cells c2 t2)).cell? ⟨w.heap.size, j, none⟩ = c0[j]?) ∧
    (∀ j, (((w.alloc (.cells c0 t0)).alloc (.cells c1 t1)).alloc (.cells c2 t2)).cell? ⟨w.heap.size + 1, j, none⟩ = c1[j]?) ∧
    (∀ j, (((w.alloc (.cells c0 t0)).alloc (.cells c1 t1)).alloc (.cells c2 t2)).cell? ⟨w.heap.size + 1 + 1, j, none⟩ = c2[j]?) := by
  have s1 : (w.alloc (.cells c0 t0)).heap.size = w.heap.size + 1 := World.size_alloc _ _
  have s2 : ((w.alloc (.cells c0 t0)).alloc (.cells c1 t1)).heap.size = w.heap.size + 1 + 1 := by rw [World.size_alloc, s1]
  refine ⟨fun j => box_keep ((Below.refl _ _).alloc (Nat.le_refl _) _) (by rw [s2]; omega) (box_keep ((Below.refl _ _).alloc (Nat.le_refl _) _) (by rw [s1]; omega) (box_new w c0 t0)) j, fun j => ?_, fun j => ?_⟩
  · have h := box_keep ((Below.refl _ ((w.alloc (.cells c0 t0)).alloc (.cells c1 t1))).alloc (Nat.le_refl _) (.cells c2 t2)) (by rw [s1, s2]; omega) (box_new (w.alloc (.cells c0 t0)) c1 t1) j
    rw [s1] at h
    exact h
  · have h := box_new ((w.alloc (.cells c0 t0)).alloc (.cells c1 t1)) c2 t2 j
    rw [s2] at h
    exact h
theorem nodes_kids {w : World} {A : Option Addr} {ks : List Nd} (h : Kd.C kNd w A ks.length ks) : ks.length ≤ 9223372036854775807 := h.2.1
set_option maxHeartbeats 4000000 in
set_option maxRecDepth 100000 in
theorem is_some2 (a0 a1 : Int) (a2 : ByteArray) (want : Int) (A : Option Addr) (c : Nat) (ks : List Nd) (B n : Nat) (w : World) (hM : MapAt w B n (formK 24)) (hwf : (Lit.int .u8 a0).wf = true) (h47 : a0 ≠ 47) (hT : TabOk w) (hC : Kd.C kNd w A ks.length ks) (f : Form) (hF : formK 24 a0 = some f) (hl : f.kids.length ≤ 9223372036854775807)
    (hgood : (andB f.is want && !decide (a1 < f.lo) && !decide (f.hi < a1)) = true)
    (hk : ∀ (x : Nd) (y : Int) (A' : Option Addr) (c' : Nat) (w' : World), x ∈ ks → Below w.heap.size w w' → At w' x A' c' → Calls Tryd.prog 84 #[.map (some B), nodeV x A' c', .int .u8 y] w' fun e w'' => e = .returned (.bool (isN x y)) ∧ Below w'.heap.size w' w'') :
    Calls Tryd.prog 84 #[.map (some B), .agg #[.int .u8 a0, .int .i64 a1, .string a2, .slice A ks.length c], .int .u8 want] w fun e w' => e = .returned (.bool (isN ⟨a0, a1, a2, ks⟩ want)) ∧ Below w.heap.size w w' := by
  have E : isN ⟨a0, a1, a2, ks⟩ want = (andB f.is want && !decide (a1 < f.lo) && !decide (f.hi < a1) && (if f.name then nameB a2 else a2.toList.isEmpty) && isZip ks f.kids) := by rw [isN, if_neg h47, hF]
  rw [hgood, Bool.true_and, isZip_eq] at E
  have hb47 : (a0 == 47) = false := beq_eq_false_iff_ne.mpr h47
  have hM2 := hM.below (((Below.refl _ w).alloc (Nat.le_refl _) (.cells #[.map (some B)] 87)).alloc (by rw [World.size_alloc]; omega) (.cells #[.int .u8 a0, .int .i64 a1, .string a2, .slice A ks.length c] 24))
  rcases hM2.look (t := 87) Tryd.underlying87 a0 hwf with ⟨h, _⟩ | ⟨f', s, h, hK, hrun⟩
  · rw [hF] at h; cases h
  obtain rfl : f = f' := Option.some.inj (hF.symm.trans h)
  obtain ⟨A2, rfl, hC2⟩ := hK.list hl
  clear hM hM2 hF h hK
  unfold andB at hgood
  obtain ⟨is, nm, lo, hi, kids⟩ := f
  simp only at hgood hrun hC2 E hl
  have HE := Aside0.mk E
  have HC2 := Aside0.mk hC2
  have HC := Aside0.mk hC
  have HK := Aside0.mk hk
  have HT := Aside0.mk hT
  have HL := Aside0.mk hl
  clear E hC2 hC hk hT hl
  simp only [Bool.and_eq_true, Bool.not_eq_true', decide_eq_false_iff_not] at hgood
  obtain ⟨⟨h1', h2⟩, h3⟩ := hgood
  have h1 : (bits BinOp.and IntKind.u8 is want == 0) = false := by
    have e : (bits BinOp.and IntKind.u8 is want != 0) = true := h1'
    rw [bne, Bool.not_eq_true'] at e
    exact e
  clear h1'
  have HB3 : Aside0 (Below w.heap.size w (((w.alloc (.cells #[.map (some B)] 87)).alloc (.cells #[.int .u8 a0, .int .i64 a1, .string a2, .slice A ks.length c] 24)).alloc (.cells #[.int .u8 is, .bool nm, .int .i64 lo, .int .i64 hi, .slice A2 kids.length kids.length] 120))) :=
    ⟨(((Below.refl _ _).alloc (Nat.le_refl _) _).alloc (by rw [World.size_alloc]; omega) _).alloc (by simp; omega) _⟩
  have HC3 : Aside0 (Kd.C (Kd.int .u8) (((w.alloc (.cells #[.map (some B)] 87)).alloc (.cells #[.int .u8 a0, .int .i64 a1, .string a2, .slice A ks.length c] 24)).alloc (.cells #[.int .u8 is, .bool nm, .int .i64 lo, .int .i64 hi, .slice A2 kids.length kids.length] 120)) A2 kids.length kids) :=
    ⟨Kd.C_below HC2.out ((Below.refl _ _).alloc (Nat.le_refl _) _)⟩
  have HS3 : Aside0 (w.heap.size + 3 = (((w.alloc (.cells #[.map (some B)] 87)).alloc (.cells #[.int .u8 a0, .int .i64 a1, .string a2, .slice A ks.length c] 24)).alloc (.cells #[.int .u8 is, .bool nm, .int .i64 lo, .int .i64 hi, .slice A2 kids.length kids.length] 120)).heap.size) := ⟨by simp⟩
  clear HC2
  by_cases hnm : nm = true
  · subst hnm
    have HE2 : Aside0 (isN ⟨a0, a1, a2, ks⟩ want = (nameB a2 && zipAll isN ks kids)) := ⟨HE.out⟩
    clear HE
    have HN : Aside0 (∀ w', Below w.heap.size w w' → Calls Tryd.prog 117 #[.string a2] w' fun e w'' => e = .returned (.bool (nameB a2)) ∧ Below w'.heap.size w' w'') := ⟨fun w' hb => Hl.name a2 w' (HT.out.below hb)⟩
    clear HT
    generalize nameB a2 = nb at *
    cases nb
    · go_enter Tryd.func84, Tryd.ntmps84
      go_wp2_with fail
      refine (HN.out _ HB3.out).mono ?_
      rintro e w' ⟨rfl, hB⟩
      have HB := Aside0.mk hB
      clear hB
      go_wp2
      go_ret
      exact ⟨bret HE2.out.symm, HB3.out.trans (HB.out.mono HB3.out.size)⟩
    · go_enter Tryd.func84, Tryd.ntmps84
      go_wp2_with fail
      refine (HN.out _ HB3.out).mono ?_
      rintro e w' ⟨rfl, hB⟩
      have HB := Aside0.mk hB
      have g0 : w'.cell? ⟨w.heap.size, 0, none⟩ = some (.map (some B)) := (hB.cell (p := ⟨w.heap.size, 0, none⟩) (by rw [← HS3.out]; show w.heap.size < _; omega)).trans ((boxes3 w _ _ _ _ _ _).1 0)
      have g1 : ∀ j, w'.cell? ⟨w.heap.size + 1, j, none⟩ = #[Value.int .u8 a0, .int .i64 a1, .string a2, .slice A ks.length c][j]? := fun j => (hB.cell (p := ⟨w.heap.size + 1, j, none⟩) (by rw [← HS3.out]; show w.heap.size + 1 < _; omega)).trans ((boxes3 w _ _ _ _ _ _).2.1 j)
      have g2 : ∀ j, w'.cell? ⟨w.heap.size + 1 + 1, j, none⟩ = #[Value.int .u8 is, .bool true, .int .i64 lo, .int .i64 hi, .slice A2 kids.length kids.length][j]? := fun j => (hB.cell (p := ⟨w.heap.size + 1 + 1, j, none⟩) (by rw [← HS3.out]; show w.heap.size + 1 + 1 < _; omega)).trans ((boxes3 w _ _ _ _ _ _).2.2 j)
      clear hB
      go_wp2_with fail
      refine (equalC 84 (.map (some B)) enter_is isN A c A2 kids.length ks kids _ (fun x y A' c' w'' hx hy hb ha => HK.out x y A' c' w'' hx ((HB3.out.trans (HB.out.mono HB3.out.size)).trans (hb.mono (by have := HB3.out.size; have := HB.out.size; omega))) ha) (C_keep HC.out (HB3.out.trans (HB.out.mono HB3.out.size))) (Kd.C_below HC3.out HB.out)).mono ?_
      rintro e w'' ⟨rfl, hB2⟩
      have HB2 := Aside0.mk hB2
      clear hB2
      go_wp2
      go_ret
      exact ⟨bret HE2.out.symm, (HB3.out.trans (HB.out.mono HB3.out.size)).trans (HB2.out.mono (by have := HB3.out.size; have := HB.out.size; omega))⟩
  · have hnm : nm = false := by simpa using hnm
    subst hnm
    have HE2 : Aside0 (isN ⟨a0, a1, a2, ks⟩ want = (a2.toList.isEmpty && zipAll isN ks kids)) := ⟨HE.out⟩
    clear HE HT
    by_cases h3e : a2.toList = []
    · have h3b : a2.toList.isEmpty = true := by rw [h3e]; rfl
      go_enter Tryd.func84, Tryd.ntmps84
      go_wp2_with fail
      refine (equalC 84 (.map (some B)) enter_is isN A c A2 kids.length ks kids _ (fun x y A' c' w'' hx hy hb ha => HK.out x y A' c' w'' hx (HB3.out.trans (hb.mono HB3.out.size)) ha) (C_keep HC.out HB3.out) HC3.out).mono ?_
      rintro e w'' ⟨rfl, hB2⟩
      have HB2 := Aside0.mk hB2
      clear hB2
      go_wp2
      go_ret
      exact ⟨bret (by rw [HE2.out, h3b]; rfl), HB3.out.trans (HB2.out.mono HB3.out.size)⟩
    · have h3b : a2.toList.isEmpty = false := by cases hh : a2.toList with
        | nil => exact absurd hh h3e
        | cons _ _ => rfl
      go_enter Tryd.func84, Tryd.ntmps84
      go_wp2_with fail
      go_ret
      exact ⟨bret (by rw [HE2.out, h3b]; rfl), HB3.out⟩
/-- Kinds are bytes, names of a size that a machine can hold. -/
def okN : Nd → Prop
  | ⟨k, _, nm, ks⟩ => (Lit.int .u8 k).wf = true ∧ nm.size ≤ 9223372036854775807 ∧ okL ks
where okL : List Nd → Prop
  | [] => True
  | x :: r => okN x ∧ okL r
theorem okL_mem {l : List Nd} {x : Nd} (h : okN.okL l) (hx : x ∈ l) : okN x := by
  induction l with
  | nil => cases hx
  | cons y r ih =>
    rw [okN.okL] at h
    cases hx with
    | head => exact h.1
    | tail _ hx => exact ih h.2 hx
theorem form0_len (a0 : Int) (f : Form) (h : form0 a0 = some f) : f.kids.length ≤ 3 := by
  unfold form0 at h
  by_cases e : a0 = 46
  · rw [if_pos e] at h; cases h; simp
  rw [if_neg e] at h
  clear e
  by_cases e : a0 = 45
  · rw [if_pos e] at h; cases h; simp
  rw [if_neg e] at h
  clear e
  by_cases e : a0 = 44
  · rw [if_pos e] at h; cases h; simp
  rw [if_neg e] at h
  clear e
  by_cases e : a0 = 43
  · rw [if_pos e] at h; cases h; simp
  rw [if_neg e] at h
  clear e
  by_cases e : a0 = 42
  · rw [if_pos e] at h; cases h; simp
  rw [if_neg e] at h
  clear e
  by_cases e : a0 = 41
  · rw [if_pos e] at h; cases h; simp
  rw [if_neg e] at h
  clear e
  by_cases e : a0 = 40
  · rw [if_pos e] at h; cases h; simp
  rw [if_neg e] at h
  clear e
  by_cases e : a0 = 5
  · rw [if_pos e] at h; cases h; simp
  rw [if_neg e] at h
  clear e
  by_cases e : a0 = 4
  · rw [if_pos e] at h; cases h; simp
  rw [if_neg e] at h
  clear e
  by_cases e : a0 = 3
  · rw [if_pos e] at h; cases h; simp
  rw [if_neg e] at h
  clear e
  by_cases e : a0 = 2
  · rw [if_pos e] at h; cases h; simp
  rw [if_neg e] at h
  clear e
  by_cases e : a0 = 1
  · rw [if_pos e] at h; cases h; simp
  rw [if_neg e] at h
  clear e
  cases h
theorem form_len (a0 : Int) (f : Form) (h : formK 24 a0 = some f) : f.kids.length ≤ 9223372036854775807 := by
  unfold formK at h
  split at h
  · cases h; simp
  · have := form0_len a0 f h; omega
theorem is_n : ∀ (n : Nat) (x : Nd) (want : Int) (A : Option Addr) (c B nm : Nat) (w : World), SizeOf.sizeOf x ≤ n → okN x → MapAt w B nm (formK 24) → TabOk w → At w x A c →
    Calls Tryd.prog 84 #[.map (some B), nodeV x A c, .int .u8 want] w fun e w' => e = .returned (.bool (isN x want)) ∧ Below w.heap.size w w' := by
  intro n
  induction n with
  | zero => intro x want A c B nm w hn; exact absurd hn (by cases x; simp)
  | succ n ih =>
    rintro ⟨a0, a1, a2, ks⟩ want A c B nm w hn hok hM hT hAt
    have hkid : ∀ (x : Nd) (y : Int) (A' : Option Addr) (c' : Nat) (w' : World), x ∈ ks → Below w.heap.size w w' → At w' x A' c' → Calls Tryd.prog 84 #[.map (some B), nodeV x A' c', .int .u8 y] w' fun e w'' => e = .returned (.bool (isN x y)) ∧ Below w'.heap.size w' w'' := fun x y A' c' w' hx hb ha => by
      have h2 := kid_lt (x := ⟨a0, a1, a2, ks⟩) (y := x) hx
      rw [okN] at hok
      exact ih x y A' c' B nm w' (by omega) (okL_mem hok.2.2 hx) (hM.below hb) (hT.below hb) ha
    rw [okN] at hok
    by_cases h47 : a0 = 47
    · subst h47
      exact is_block a1 a2 want A c ks B w hAt.1 (fun x A' c' w' hx hb ha => hkid x 4 A' c' w' hx hb ha)
    · cases hF : formK 24 a0 with
      | none => exact is_none a0 a1 a2 want A c ks B nm w hM hok.1 h47 hF
      | some f =>
        cases hg : (andB f.is want && !decide (a1 < f.lo) && !decide (f.hi < a1)) with
        | false => exact is_some1 a0 a1 a2 want A c ks B nm w hM hok.1 h47 f hF (form_len a0 f hF) hg
        | true => exact is_some2 a0 a1 a2 want A c ks B nm w hM hok.1 h47 hT hAt.1 f hF (form_len a0 f hF) hg hkid
set_option maxHeartbeats 2000000 in
theorem isExpr (x : Nd) (A : Option Addr) (c : Nat) (w : World) (hok : okN x) (hT : TabOk w) (hA : At w x A c) :
    Calls Tryd.prog 23 #[nodeV x A c] w fun e w' => e = .returned (.bool (isN x 1)) ∧ Below w.heap.size w w' := by
  have HF := Aside0.mk forms
  have HI := Aside0.mk (fun B nm w' (hb : Below w.heap.size w w') hM => is_n _ x 1 A c B nm w' (Nat.le_refl _) hok hM (hT.below hb) (hA.below hb))
  clear hT hA hok
  have HB0 : Aside0 (Below w.heap.size w (w.alloc (.cells #[.int .u8 x.f0, .int .i64 x.f1, .string x.f2, .slice A x.f3.length c] 24)).drew) := ⟨((Below.refl _ w).alloc (Nat.le_refl _) _).drew⟩
  have HC0 : Aside0 (∀ j, (w.alloc (.cells #[.int .u8 x.f0, .int .i64 x.f1, .string x.f2, .slice A x.f3.length c] 24)).drew.cell? ⟨w.heap.size, j, none⟩ = #[Value.int .u8 x.f0, .int .i64 x.f1, .string x.f2, .slice A x.f3.length c][j]?) := ⟨fun j => box_new w _ _ j⟩
  go_enter Tryd.func23, Tryd.ntmps23
  go_wp2_with fail
  go_region_with (first
    | (refine (HF.out _).mono ?_; rintro e w' ⟨B, nm, rfl, hM, hB⟩; have HM := Aside0.mk hM; have HB := Aside0.mk hB; have g1 := box_keep hB (by simp) HC0.out; clear hM hB)
    | (refine (HI.out B nm _ (HB0.out.trans (HB.out.mono HB0.out.size)) HM.out).mono ?_; rintro e w'' ⟨rfl, hB2⟩; have HB2 := Aside0.mk hB2; clear hB2))
  all_goals go_wp2
  all_goals go_ret
  all_goals exact ⟨rfl, (HB0.out.trans (HB.out.mono HB0.out.size)).trans (HB2.out.mono (by have := HB0.out.size; have := HB.out.size; omega))⟩
set_option maxHeartbeats 2000000 in
theorem isStmt (x : Nd) (A : Option Addr) (c : Nat) (w : World) (hok : okN x) (hT : TabOk w) (hA : At w x A c) :
    Calls Tryd.prog 25 #[nodeV x A c] w fun e w' => e = .returned (.bool (isN x 4)) ∧ Below w.heap.size w w' := by
  have HF := Aside0.mk forms
  have HI := Aside0.mk (fun B nm w' (hb : Below w.heap.size w w') hM => is_n _ x 4 A c B nm w' (Nat.le_refl _) hok hM (hT.below hb) (hA.below hb))
  clear hT hA hok
  have HB0 : Aside0 (Below w.heap.size w (w.alloc (.cells #[.int .u8 x.f0, .int .i64 x.f1, .string x.f2, .slice A x.f3.length c] 24)).drew) := ⟨((Below.refl _ w).alloc (Nat.le_refl _) _).drew⟩
  have HC0 : Aside0 (∀ j, (w.alloc (.cells #[.int .u8 x.f0, .int .i64 x.f1, .string x.f2, .slice A x.f3.length c] 24)).drew.cell? ⟨w.heap.size, j, none⟩ = #[Value.int .u8 x.f0, .int .i64 x.f1, .string x.f2, .slice A x.f3.length c][j]?) := ⟨fun j => box_new w _ _ j⟩
  go_enter Tryd.func25, Tryd.ntmps25
  go_wp2_with fail
  go_region_with (first
    | (refine (HF.out _).mono ?_; rintro e w' ⟨B, nm, rfl, hM, hB⟩; have HM := Aside0.mk hM; have HB := Aside0.mk hB; have g1 := box_keep hB (by simp) HC0.out; clear hM hB)
    | (refine (HI.out B nm _ (HB0.out.trans (HB.out.mono HB0.out.size)) HM.out).mono ?_; rintro e w'' ⟨rfl, hB2⟩; have HB2 := Aside0.mk hB2; clear hB2))
  all_goals go_wp2
  all_goals go_ret
  all_goals exact ⟨rfl, (HB0.out.trans (HB.out.mono HB0.out.size)).trans (HB2.out.mono (by have := HB0.out.size; have := HB.out.size; omega))⟩
set_option maxHeartbeats 2000000 in
theorem isBlock (x : Nd) (A : Option Addr) (c : Nat) (w : World) (hok : okN x) (hT : TabOk w) (hA : At w x A c) :
    Calls Tryd.prog 27 #[nodeV x A c] w fun e w' => e = .returned (.bool (isN x 8)) ∧ Below w.heap.size w w' := by
  have HF := Aside0.mk forms
  have HI := Aside0.mk (fun B nm w' (hb : Below w.heap.size w w') hM => is_n _ x 8 A c B nm w' (Nat.le_refl _) hok hM (hT.below hb) (hA.below hb))
  clear hT hA hok
  have HB0 : Aside0 (Below w.heap.size w (w.alloc (.cells #[.int .u8 x.f0, .int .i64 x.f1, .string x.f2, .slice A x.f3.length c] 24)).drew) := ⟨((Below.refl _ w).alloc (Nat.le_refl _) _).drew⟩
  have HC0 : Aside0 (∀ j, (w.alloc (.cells #[.int .u8 x.f0, .int .i64 x.f1, .string x.f2, .slice A x.f3.length c] 24)).drew.cell? ⟨w.heap.size, j, none⟩ = #[Value.int .u8 x.f0, .int .i64 x.f1, .string x.f2, .slice A x.f3.length c][j]?) := ⟨fun j => box_new w _ _ j⟩
  go_enter Tryd.func27, Tryd.ntmps27
  go_wp2_with fail
  go_region_with (first
    | (refine (HF.out _).mono ?_; rintro e w' ⟨B, nm, rfl, hM, hB⟩; have HM := Aside0.mk hM; have HB := Aside0.mk hB; have g1 := box_keep hB (by simp) HC0.out; clear hM hB)
    | (refine (HI.out B nm _ (HB0.out.trans (HB.out.mono HB0.out.size)) HM.out).mono ?_; rintro e w'' ⟨rfl, hB2⟩; have HB2 := Aside0.mk hB2; clear hB2))
  all_goals go_wp2
  all_goals go_ret
  all_goals exact ⟨rfl, (HB0.out.trans (HB.out.mono HB0.out.size)).trans (HB2.out.mono (by have := HB0.out.size; have := HB.out.size; omega))⟩
end Go.Proofs.YtmdbbfoejmakdaaDoor.Ha

/-
  Plain laws: every node of a valid tree is of exactly one category; what a valid block is. By this session, out of its own program (wip/gen).
-/
import Derived.Test.YtmdbbfoejmakdaaDoorHvis
import Derived.Test.YtmdbbfoejmakdaaDoorHawake
namespace Go.Proofs.YtmdbbfoejmakdaaDoor.Ha
open Go.RowKit Go.Proofs.YtmdbbfoejmakdaaDoorW.PrintWords Go.Proofs.YtmdbbfoejmakdaaDoorW.PrintLast Go.Proofs.YtmdbbfoejmakdaaDoorW.PrintMore Go.Proofs.YtmdbbfoejmakdaaDoor.P
set_option linter.unusedVariables false
set_option linter.unusedSimpArgs false
open Hl
/-- Exactly one category. -/
def one (x : Nd) : Prop := (isN x 1 = true ∧ isN x 4 = false ∧ isN x 8 = false) ∨ (isN x 1 = false ∧ isN x 4 = true ∧ isN x 8 = false) ∨ (isN x 1 = false ∧ isN x 4 = false ∧ isN x 8 = true)
def cat (c : Int) : Prop := c = 1 ∨ c = 2 ∨ c = 4 ∨ c = 8
theorem form0_facts (a0 : Int) (f : Form) (h : form0 a0 = some f) : (f.is = 1 ∨ f.is = 3 ∨ f.is = 4) ∧ ∀ c ∈ f.kids, cat c := by
  unfold form0 at h
  by_cases e : a0 = 46
  · rw [if_pos e] at h; cases h; exact ⟨by simp, fun c hc => by unfold cat; simp at hc; try omega⟩
  rw [if_neg e] at h
  clear e
  by_cases e : a0 = 45
  · rw [if_pos e] at h; cases h; exact ⟨by simp, fun c hc => by unfold cat; simp at hc; try omega⟩
  rw [if_neg e] at h
  clear e
  by_cases e : a0 = 44
  · rw [if_pos e] at h; cases h; exact ⟨by simp, fun c hc => by unfold cat; simp at hc; try omega⟩
  rw [if_neg e] at h
  clear e
  by_cases e : a0 = 43
  · rw [if_pos e] at h; cases h; exact ⟨by simp, fun c hc => by unfold cat; simp at hc; try omega⟩
  rw [if_neg e] at h
  clear e
  by_cases e : a0 = 42
  · rw [if_pos e] at h; cases h; exact ⟨by simp, fun c hc => by unfold cat; simp at hc; try omega⟩
  rw [if_neg e] at h
  clear e
  by_cases e : a0 = 41
  · rw [if_pos e] at h; cases h; exact ⟨by simp, fun c hc => by unfold cat; simp at hc; try omega⟩
  rw [if_neg e] at h
  clear e
  by_cases e : a0 = 40
  · rw [if_pos e] at h; cases h; exact ⟨by simp, fun c hc => by unfold cat; simp at hc; try omega⟩
  rw [if_neg e] at h
  clear e
  by_cases e : a0 = 5
  · rw [if_pos e] at h; cases h; exact ⟨by simp, fun c hc => by unfold cat; simp at hc; try omega⟩
  rw [if_neg e] at h
  clear e
  by_cases e : a0 = 4
  · rw [if_pos e] at h; cases h; exact ⟨by simp, fun c hc => by unfold cat; simp at hc; try omega⟩
  rw [if_neg e] at h
  clear e
  by_cases e : a0 = 3
  · rw [if_pos e] at h; cases h; exact ⟨by simp, fun c hc => by unfold cat; simp at hc; try omega⟩
  rw [if_neg e] at h
  clear e
  by_cases e : a0 = 2
  · rw [if_pos e] at h; cases h; exact ⟨by simp, fun c hc => by unfold cat; simp at hc; try omega⟩
  rw [if_neg e] at h
  clear e
  by_cases e : a0 = 1
  · rw [if_pos e] at h; cases h; exact ⟨by simp, fun c hc => by unfold cat; simp at hc; try omega⟩
  rw [if_neg e] at h
  clear e
  cases h
theorem form_facts (a0 : Int) (f : Form) (h : formK 24 a0 = some f) : (f.is = 1 ∨ f.is = 3 ∨ f.is = 4) ∧ ∀ c ∈ f.kids, cat c := by
  unfold formK at h
  split at h
  · cases h
    refine ⟨by simp, fun c hc => ?_⟩
    unfold cat
    simp at hc
    omega
  · exact form0_facts a0 f h
theorem isN_block (num : Int) (nm : ByteArray) (ks : List Nd) (c : Int) : isN ⟨47, num, nm, ks⟩ c = (andB c 8 && (num == 0) && nm.toList.isEmpty && isAll ks) := by rw [isN, if_pos rfl]
theorem isN_form (k num : Int) (nm : ByteArray) (ks : List Nd) (c : Int) (f : Form) (h : k ≠ 47) (hf : formK 24 k = some f) : isN ⟨k, num, nm, ks⟩ c = (andB f.is c && !decide (num < f.lo) && !decide (f.hi < num) && (if f.name then nameB nm else nm.toList.isEmpty) && isZip ks f.kids) := by
  rw [isN, if_neg h, hf]
theorem isN_none (k num : Int) (nm : ByteArray) (ks : List Nd) (c : Int) (h : k ≠ 47) (hf : formK 24 k = none) : isN ⟨k, num, nm, ks⟩ c = false := by
  rw [isN, if_neg h, hf]
theorem isZip_mem : ∀ (ks : List Nd) (cs : List Int), isZip ks cs = true → ∀ y ∈ ks, ∃ c ∈ cs, isN y c = true
  | [], _, _, y, hy => by cases hy
  | x :: r, [], h, y, hy => by rw [isZip] at h <;> simp_all
  | x :: r, c :: s, h, y, hy => by
    rw [isZip, Bool.and_eq_true] at h
    cases hy with
    | head => exact ⟨c, List.mem_cons_self .., h.1⟩
    | tail _ hy =>
      obtain ⟨c', h1, h2⟩ := isZip_mem r s h.2 y hy
      exact ⟨c', List.mem_cons_of_mem _ h1, h2⟩
theorem isN_kid (x : Nd) (c : Int) (h : isN x c = true) (y : Nd) (hy : y ∈ x.f3) : ∃ c', cat c' ∧ isN y c' = true := by
  obtain ⟨k, num, nm, ks⟩ := x
  by_cases hk : k = 47
  · subst hk
    rw [isN_block, Bool.and_eq_true, isAll_eq, List.all_eq_true] at h
    exact ⟨4, Or.inr (Or.inr (Or.inl rfl)), h.2 y hy⟩
  · cases hf : formK 24 k with
    | none => rw [isN_none k num nm ks c hk hf] at h; cases h
    | some f =>
      rw [isN_form k num nm ks c f hk hf, Bool.and_eq_true] at h
      obtain ⟨c', h1, h2⟩ := isZip_mem ks f.kids h.2 y hy
      exact ⟨c', (form_facts k f hf).2 c' h1, h2⟩
theorem isN_one (x : Nd) (c : Int) (hc : cat c) (h : isN x c = true) : one x := by
  obtain ⟨k, num, nm, ks⟩ := x
  by_cases hk : k = 47
  · subst hk
    refine Or.inr (Or.inr ?_)
    rw [isN_block] at h ⊢
    rw [isN_block, isN_block]
    have e1 : andB 1 8 = false := by decide
    have e2 : andB 4 8 = false := by decide
    have e3 : andB 2 8 = false := by decide
    have e4 : andB 8 8 = true := by decide
    rcases hc with rfl | rfl | rfl | rfl
    · rw [e1] at h; simp at h
    · rw [e3] at h; simp at h
    · rw [e2] at h; simp at h
    · rw [e1, e2]; exact ⟨by simp, by simp, h⟩
  · cases hf : formK 24 k with
    | none => rw [isN_none k num nm ks c hk hf] at h; cases h
    | some f =>
      unfold one
      rw [isN_form k num nm ks c f hk hf] at h
      rw [isN_form k num nm ks 1 f hk hf, isN_form k num nm ks 4 f hk hf, isN_form k num nm ks 8 f hk hf]
      simp only [Bool.and_assoc] at h ⊢
      rw [Bool.and_eq_true] at h
      rw [h.2]
      have h1 := h.1
      rcases (form_facts k f hf).1 with e | e | e
      · rw [e]; exact Or.inl (by decide)
      · rw [e]; exact Or.inl (by decide)
      · rw [e]; exact Or.inr (Or.inl (by decide))
mutual
theorem wk_one : ∀ (x : Nd) (p : List Int) (c : Int), cat c → isN x c = true → ∀ q ∈ wkN p x, one q.2
  | ⟨a, b, d, ks⟩, p, c, hc, h, q, hq => by
    rw [wkN] at hq
    cases hq with
    | head => exact isN_one _ c hc h
    | tail _ hq => exact wkL_one ks p 0 (fun y hy => isN_kid ⟨a, b, d, ks⟩ c h y hy) q hq
theorem wkL_one : ∀ (l : List Nd) (p : List Int) (i : Nat), (∀ y ∈ l, ∃ c, cat c ∧ isN y c = true) → ∀ q ∈ wkL p i l, one q.2
  | [], p, i, h, q, hq => by rw [wkL] at hq; cases hq
  | x :: r, p, i, h, q, hq => by
    rw [wkL, List.mem_append] at hq
    rcases hq with hq | hq
    · obtain ⟨c, hc, h1⟩ := h x (List.mem_cons_self ..)
      exact wk_one x _ c hc h1 q hq
    · exact wkL_one r p (i + 1) (fun y hy => h y (List.mem_cons_of_mem _ hy)) q hq
end
mutual
theorem wk_ok : ∀ (x : Nd) (p : List Int), okN x → ∀ q ∈ wkN p x, okN q.2
  | ⟨a, b, d, ks⟩, p, h, q, hq => by
    rw [wkN] at hq
    cases hq with
    | head => exact h
    | tail _ hq =>
      rw [okN] at h
      exact wkL_ok ks p 0 h.2.2 q hq
theorem wkL_ok : ∀ (l : List Nd) (p : List Int) (i : Nat), okN.okL l → ∀ q ∈ wkL p i l, okN q.2
  | [], p, i, h, q, hq => by rw [wkL] at hq; cases hq
  | x :: r, p, i, h, q, hq => by
    rw [okN.okL] at h
    rw [wkL, List.mem_append] at hq
    rcases hq with hq | hq
    · exact wk_ok x _ h.1 q hq
    · exact wkL_ok r p (i + 1) h.2 q hq
end
theorem okL_all2 {l : List Nd} (h : ∀ x ∈ l, okN x) : okN.okL l := by
  induction l with
  | nil => rw [okN.okL]; trivial
  | cons x r ih => rw [okN.okL]; exact ⟨h x (List.mem_cons_self ..), ih fun y hy => h y (List.mem_cons_of_mem _ hy)⟩
theorem block_form (x : Nd) (h : isN x 8 = true) : x.f0 = 47 ∧ ∀ y ∈ x.f3, isN y 4 = true := by
  obtain ⟨k, num, nm, ks⟩ := x
  by_cases hk : k = 47
  · subst hk
    rw [isN_block, Bool.and_eq_true, isAll_eq, List.all_eq_true] at h
    exact ⟨rfl, h.2⟩
  · cases hf : formK 24 k with
    | none => rw [isN_none k num nm ks 8 hk hf] at h; cases h
    | some f =>
      rw [isN_form k num nm ks 8 f hk hf] at h
      simp only [Bool.and_assoc] at h
      rw [Bool.and_eq_true] at h
      have h1 := h.1
      rcases (form_facts k f hf).1 with e | e | e <;> rw [e] at h1 <;> exact absurd h1 (by decide)
theorem emp0' : (⟨#[]⟩ : ByteArray).toList = [] := by rw [ByteArray.toList_eq]
theorem block_isN (l : List Nd) : isN ⟨47, 0, ⟨#[]⟩, l⟩ 8 = l.all fun y => isN y 4 := by
  rw [isN_block, isAll_eq, emp0']
  have e : andB 8 8 = true := by decide
  rw [e]
  simp
theorem block_ok {l : List Nd} (h : ∀ y ∈ l, okN y) : okN ⟨47, 0, ⟨#[]⟩, l⟩ := by
  rw [okN]
  exact ⟨by decide, by simp [ByteArray.size], okL_all2 h⟩
end Go.Proofs.YtmdbbfoejmakdaaDoor.Ha

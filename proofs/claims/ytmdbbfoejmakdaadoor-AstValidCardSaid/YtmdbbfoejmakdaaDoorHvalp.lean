/-
  Plain laws: what the reference's Valid, list and the law's Great answer. By this session, out of its own program (wip/gen).
-/
import Derived.Test.YtmdbbfoejmakdaaDoorHopen3
import Derived.Test.YtmdbbfoejmakdaaDoorHpis
import Derived.Test.YtmdbbfoejmakdaaDoorHpure
import Derived.Test.YtmdbbfoejmakdaaDoorHeq
import Derived.Test.YtmdbbfoejmakdaaDoorPx10
import Derived.Test.YtmdbbfoejmakdaaDoorPx19
namespace Go.Proofs.YtmdbbfoejmakdaaDoor.Ha
open Go.RowKit Go.Proofs.YtmdbbfoejmakdaaDoorW.PrintWords Go.Proofs.YtmdbbfoejmakdaaDoorW.PrintLast Go.Proofs.YtmdbbfoejmakdaaDoorW.PrintMore Go.Proofs.YtmdbbfoejmakdaaDoor.P
set_option linter.unusedVariables false
set_option linter.unusedSimpArgs false
open Hl
def arrB (a : S71) : Bool := nameB a.f0 && !decide (a.f1 < 1) && !decide (32 < a.f1)
def arrsB (l : List S71) : Bool := decide (l.length ≤ 4) && l.all arrB
def bodyB (x : Nd) : Bool := isN x 8 && decide (dpN x ≤ 16) && decide (szN x ≤ 400) && decide (neN x ≤ 4)
def tskB (t : S65) : Bool := nameB t.f0 && !decide (t.f1 < 1) && !decide (1000 < t.f1) && decide (t.f2.length ≤ 12) && arrsB t.f3 && t.f2.all nameB && bodyB t.f4
def prgB (sh : List S71) (ts : List S65) : Bool := arrsB sh && decide (ts.length ≤ 8) && ts.all tskB
theorem all_false {α : Type} {p : α → Bool} {l : List α} {x : α} (h : x ∈ l) (hp : ¬ p x = true) : l.all p = false := by
  cases hb : l.all p with
  | false => rfl
  | true => exact absurd (List.all_eq_true.1 hb x h) hp
theorem rdA {l : List S71} {i : Nat} (h : i < l.length) : rd_T71 l (i : Int) = l[i] := by simp [rd_T71, List.getD_eq_getElem?_getD, List.getElem?_eq_getElem h]
theorem rdT {l : List S65} {i : Nat} (h : i < l.length) : rd_T65 l (i : Int) = l[i] := by simp [rd_T65, List.getD_eq_getElem?_getD, List.getElem?_eq_getElem h]
theorem rdS {l : List ByteArray} {i : Nat} (h : i < l.length) : rdOf ByteArray.empty l (i : Int) = l[i] := by simp [rdOf, List.getD_eq_getElem?_getD, List.getElem?_eq_getElem h]
def notGreat (sh : List S71) (ts : List S65) : Prop := sh.length ≤ 10 ∧ ts.length ≤ 10 ∧ ∀ t ∈ ts, t.f2.length ≤ 20 ∧ t.f3.length ≤ 10 ∧ szN t.f4 ≤ 500 ∧ dpN t.f4 ≤ 40
theorem great_ok (sh : List S71) (ts : List S65) : (Ev fun k => ontimelaw12_Great.f k sh ts = some 1) ∨ ((Ev fun k => ontimelaw12_Great.f k sh ts = some 0) ∧ notGreat sh ts) := by
  have j1 : Ev fun k => ontimelaw12_Great.j0 k true sh ts = some 1 := Ev.succ (Ev.all fun k => by simp only [ontimelaw12_Great.j0]; rw [if_pos trivial])
  by_cases h1 : (sh.length : Int) > 10
  · exact Or.inl (j1.mono fun k h => by unfold ontimelaw12_Great.f; rw [if_pos h1, h])
  · by_cases h2 : (ts.length : Int) > 10
    · exact Or.inl (j1.mono fun k h => by unfold ontimelaw12_Great.f; rw [if_neg h1, decide_eq_true h2, h])
    · obtain ⟨r, hr, h⟩ := ev_loop (fun r => r = (1 : Int) ∨ (r = 0 ∧ ∀ t ∈ ts, t.f2.length ≤ 20 ∧ t.f3.length ≤ 10 ∧ szN t.f4 ≤ 500 ∧ dpN t.f4 ≤ 40)) ts.length (fun k i => ontimelaw12_Great.l0 k ts (ts.length : Int) (i : Int)) (fun i => ∀ t ∈ ts.take i, t.f2.length ≤ 20 ∧ t.f3.length ≤ 10 ∧ szN t.f4 ≤ 500 ∧ dpN t.f4 ≤ 40)
        (fun hI => ⟨0, Or.inr ⟨rfl, by rwa [List.take_length] at hI⟩, Ev.all fun k => by simp only [ontimelaw12_Great.l0]; rw [if_neg (by omega)]⟩)
        (fun i hi hI => by
          have hget := rdT hi
          by_cases p1 : (ts[i].f2.length : Int) > 20
          · exact Or.inl ⟨1, Or.inl rfl, Ev.all fun k => by simp only [ontimelaw12_Great.l0]; rw [if_pos (by omega), if_pos (by omega), if_pos (by omega), hget, if_pos p1]⟩
          · by_cases p2 : (ts[i].f3.length : Int) > 10
            · exact Or.inl ⟨1, Or.inl rfl, Ev.all fun k => by simp only [ontimelaw12_Great.l0]; rw [if_pos (by omega), if_pos (by omega), if_pos (by omega), hget, if_neg p1, if_pos p2]⟩
            · rcases big_ok ts[i].f4 with hb | ⟨hb, hs, hd⟩
              · exact Or.inl ⟨1, Or.inl rfl, hb.mono fun k hk => by
                  simp only [ontimelaw12_Great.l0]
                  rw [if_pos (by omega), if_pos (by omega), if_pos (by omega), hget, if_neg p1, if_neg p2, hk]
                  simp only [Option.bind_some]
                  rw [if_pos trivial]⟩
              · refine Or.inr ⟨fun t ht => ?_, hb.mono fun k hk => ?_⟩
                · rw [List.take_succ_eq_append_getElem hi, List.mem_append, List.mem_singleton] at ht
                  rcases ht with ht | rfl
                  · exact hI t ht
                  · exact ⟨by omega, by omega, hs, hd⟩
                · simp only [ontimelaw12_Great.l0]
                  rw [if_pos (by omega), if_pos (by omega), if_pos (by omega), hget, if_neg p1, if_neg p2, hk]
                  simp only [Option.bind_some]
                  rw [if_neg (by decide), w64 (by omega) (by omega)]
                  rfl)
        (fun t ht => by simp at ht)
      have hj0 : Ev fun k => ontimelaw12_Great.j0 k false sh ts = some r := Ev.succ (h.mono fun k hk => by simp only [ontimelaw12_Great.j0]; rw [if_neg (by simp)]; exact hk)
      have hf : Ev fun k => ontimelaw12_Great.f k sh ts = some r := hj0.mono fun k hk => by unfold ontimelaw12_Great.f; rw [if_neg h1, decide_eq_false h2, hk]
      rcases hr with rfl | ⟨rfl, hall⟩
      · exact Or.inl hf
      · exact Or.inr ⟨hf, by omega, by omega, hall⟩
/-! Equality of lists, element by element. -/
def zipQ {α β : Type} (q : α → β → Bool) : List α → List β → Bool
  | [], [] => true
  | x :: r, y :: s => q x y && zipQ q r s
  | _, _ => false
theorem zipQ_drop {α β : Type} (q : α → β → Bool) (l : List α) (m : List β) (k : Nat) (h : k < l.length) (g : k < m.length) : zipQ q (l.drop k) (m.drop k) = (q l[k] m[k] && zipQ q (l.drop (k + 1)) (m.drop (k + 1))) := by
  rw [List.drop_eq_getElem_cons h, List.drop_eq_getElem_cons g, zipQ]
theorem zipQ_ne {α β : Type} (q : α → β → Bool) : ∀ (l : List α) (m : List β), l.length ≠ m.length → zipQ q l m = false
  | [], [], h => absurd rfl h
  | [], _ :: _, _ => by rw [zipQ] <;> simp
  | _ :: _, [], _ => by rw [zipQ] <;> simp
  | x :: r, y :: s, h => by rw [zipQ, zipQ_ne q r s (by simpa using h)]; simp
theorem zipQ_refl {α : Type} (q : α → α → Bool) (hq : ∀ x, q x x = true) : ∀ l : List α, zipQ q l l = true
  | [] => by rw [zipQ]
  | x :: r => by rw [zipQ, hq, zipQ_refl q hq r]; rfl
theorem zipQ_symm {α : Type} (q : α → α → Bool) (hq : ∀ x y, q x y = q y x) : ∀ l m : List α, zipQ q l m = zipQ q m l
  | [], [] => rfl
  | [], _ :: _ => by rw [zipQ_ne _ _ _ (by simp), zipQ_ne _ _ _ (by simp)]
  | _ :: _, [] => by rw [zipQ_ne _ _ _ (by simp), zipQ_ne _ _ _ (by simp)]
  | x :: r, y :: s => by rw [zipQ, zipQ, hq, zipQ_symm q hq r s]
def eqA (a b : S71) : Bool := (a.f0.toList == b.f0.toList) && (a.f1 == b.f1)
def eqS (a b : ByteArray) : Bool := a.toList == b.toList
def sameT (a b : S65) : Bool := eqS a.f0 b.f0 && (a.f1 == b.f1) && zipQ eqS a.f2 b.f2 && zipQ eqA a.f3 b.f3 && eqN a.f4 b.f4
def sameP (sh sh2 : List S71) (ts ts2 : List S65) : Bool := zipQ eqA sh sh2 && zipQ sameT ts ts2
theorem eqS_refl (a : ByteArray) : eqS a a = true := by unfold eqS; simp
theorem eqS_symm (a b : ByteArray) : eqS a b = eqS b a := by unfold eqS; exact BEq.comm
theorem eqA_refl (a : S71) : eqA a a = true := by unfold eqA; simp
theorem eqA_symm (a b : S71) : eqA a b = eqA b a := by unfold eqA; rw [BEq.comm (a := a.f0.toList), BEq.comm (a := a.f1)]
theorem sameT_refl (a : S65) : sameT a a = true := by unfold sameT; rw [eqS_refl, zipQ_refl _ eqS_refl, zipQ_refl _ eqA_refl, eqN_refl]; simp
theorem sameT_symm (a b : S65) : sameT a b = sameT b a := by unfold sameT; rw [eqS_symm, BEq.comm (a := a.f1), zipQ_symm _ eqS_symm, zipQ_symm _ eqA_symm, eqN_symm]
theorem sameP_refl (sh : List S71) (ts : List S65) : sameP sh sh ts ts = true := by unfold sameP; rw [zipQ_refl _ eqA_refl, zipQ_refl _ sameT_refl]; rfl
theorem sameP_symm (sh sh2 : List S71) (ts ts2 : List S65) : sameP sh sh2 ts ts2 = sameP sh2 sh ts2 ts := by unfold sameP; rw [zipQ_symm _ eqA_symm, zipQ_symm _ sameT_symm]
theorem eqA_not (a b : S71) : ((!(a.f0.toList == b.f0.toList)) || (!(a.f1 == b.f1))) = !eqA a b := by unfold eqA; rw [Bool.not_and]
theorem refList (l m : List S71) (hl : l.length ≤ 1000000) : Ev fun k => ontimeref12_list.f k l m = some (zipQ eqA l m) := by
  by_cases hlen : l.length = m.length
  · obtain ⟨r, rfl, h⟩ := ev_loop (fun r => r = zipQ eqA l m) l.length (fun k i => ontimeref12_list.l0 k l m (i : Int)) (fun i => zipQ eqA l m = zipQ eqA (l.drop i) (m.drop i))
      (fun hI => ⟨_, rfl, Ev.all fun k => by
        rw [hI, List.drop_length, hlen, List.drop_length]
        simp only [ontimeref12_list.l0]
        rw [if_neg (by omega)]
        rfl⟩)
      (fun i hi hI => by
        rw [zipQ_drop eqA l m i hi (by omega)] at hI
        by_cases hb : eqA l[i] (m[i]'(by omega)) = true
        · refine Or.inr ⟨by rw [hI, hb]; rfl, Ev.all fun k => ?_⟩
          simp only [ontimeref12_list.l0]
          rw [if_pos (by omega), if_pos (by omega), if_pos (by omega), rdA hi, rdA (show i < m.length by omega), eqA_not, hb, if_neg (by simp), w64 (by omega) (by omega)]
          rfl
        · refine Or.inl ⟨false, by rw [hI, (Bool.not_eq_true _).mp hb]; rfl, Ev.all fun k => ?_⟩
          simp only [ontimeref12_list.l0]
          rw [if_pos (by omega), if_pos (by omega), if_pos (by omega), rdA hi, rdA (show i < m.length by omega), eqA_not, (Bool.not_eq_true _).mp hb, if_pos (show (!false) = true from rfl)])
      (by simp)
    exact h.mono fun k hk => by unfold ontimeref12_list.f; rw [if_pos (by omega)]; exact hk
  · exact Ev.all fun k => by unfold ontimeref12_list.f; rw [if_neg (by omega), zipQ_ne _ _ _ hlen]
theorem slEqA (l m : List S71) (hl : l.length ≤ 1000000) : Ev fun k => api_Array.f k l m = some (zipQ eqA l m) := by
  by_cases hlen : l.length = m.length
  · obtain ⟨r, rfl, h⟩ := ev_loop (fun r => r = zipQ eqA l m) l.length (fun k i => api_Array.l0 k l m (l.length : Int) (i : Int)) (fun i => zipQ eqA l m = zipQ eqA (l.drop i) (m.drop i))
      (fun hI => ⟨_, rfl, Ev.all fun k => by
        rw [hI, List.drop_length, hlen, List.drop_length]
        simp only [api_Array.l0]
        rw [if_neg (by omega)]
        rfl⟩)
      (fun i hi hI => by
        rw [zipQ_drop eqA l m i hi (by omega)] at hI
        by_cases hb : eqA l[i] (m[i]'(by omega)) = true
        · refine Or.inr ⟨by rw [hI, hb]; rfl, Ev.all fun k => ?_⟩
          simp only [api_Array.l0]
          rw [if_pos (by omega), if_pos (by omega), if_pos (by omega), if_pos (by omega), rdA hi, rdA (show i < m.length by omega), eqA_not, hb, if_neg (by simp), w64 (by omega) (by omega)]
          rfl
        · refine Or.inl ⟨false, by rw [hI, (Bool.not_eq_true _).mp hb]; rfl, Ev.all fun k => ?_⟩
          simp only [api_Array.l0]
          rw [if_pos (by omega), if_pos (by omega), if_pos (by omega), if_pos (by omega), rdA hi, rdA (show i < m.length by omega), eqA_not, (Bool.not_eq_true _).mp hb, if_pos (show (!false) = true from rfl)])
      (by simp)
    exact h.mono fun k hk => by unfold api_Array.f; rw [if_pos (by omega)]; exact hk
  · exact Ev.all fun k => by unfold api_Array.f; rw [if_neg (by omega), zipQ_ne _ _ _ hlen]
theorem slEqS (l m : List ByteArray) (hl : l.length ≤ 1000000) : Ev fun k => slices_Equal_string_string.f k l m = some (zipQ eqS l m) := by
  by_cases hlen : l.length = m.length
  · obtain ⟨r, rfl, h⟩ := ev_loop (fun r => r = zipQ eqS l m) l.length (fun k i => slices_Equal_string_string.l0 k l m (l.length : Int) (i : Int)) (fun i => zipQ eqS l m = zipQ eqS (l.drop i) (m.drop i))
      (fun hI => ⟨_, rfl, Ev.all fun k => by
        rw [hI, List.drop_length, hlen, List.drop_length]
        simp only [slices_Equal_string_string.l0]
        rw [if_neg (by omega)]
        rfl⟩)
      (fun i hi hI => by
        rw [zipQ_drop eqS l m i hi (by omega)] at hI
        by_cases hb : l[i].toList = (m[i]'(by omega)).toList
        · refine Or.inr ⟨by rw [hI]; unfold eqS; rw [hb]; simp, Ev.all fun k => ?_⟩
          simp only [slices_Equal_string_string.l0]
          rw [if_pos (by omega), if_pos (by omega), if_pos (by omega), if_pos (by omega), rdS hi, rdS (show i < m.length by omega), if_pos hb, w64 (by omega) (by omega)]
          rfl
        · refine Or.inl ⟨false, by rw [hI]; unfold eqS; rw [show (l[i].toList == (m[i]'(by omega)).toList) = false from by simpa using hb]; rfl, Ev.all fun k => ?_⟩
          simp only [slices_Equal_string_string.l0]
          rw [if_pos (by omega), if_pos (by omega), if_pos (by omega), if_pos (by omega), rdS hi, rdS (show i < m.length by omega), if_neg hb])
      (by simp)
    exact h.mono fun k hk => by unfold slices_Equal_string_string.f; rw [if_pos (by omega)]; exact hk
  · exact Ev.all fun k => by unfold slices_Equal_string_string.f; rw [if_neg (by omega), zipQ_ne _ _ _ hlen]
end Go.Proofs.YtmdbbfoejmakdaaDoor.Ha

/-
  The contracts of slices.IndexFunc and ContainsFunc at ints, over a function value that is known, and pipeline.Valid's. By this session.
-/
import Derived.Test.YtmdbbfoejmakdaaWWords
import Derived.Test.YtmdbbfoejmakdaaProg
import Derived.WalkKit
import Derived.OwnWalk
import Derived.Outline
namespace Go.Proofs.Ytmdbbfoejmakdaa.Hp
open Go.RowKit Go.Proofs.YtmdbbfoejmakdaaW.PrintWords
set_option linter.unusedVariables false
set_option linter.unusedSimpArgs false

/-- The first place at which p holds, from place i on; -1: none. -/
def firstAt {α : Type} (p : α → Bool) : List α → Int → Int
  | [], _ => -1
  | x :: r, i => if p x then i else firstAt p r (i + 1)
theorem firstAt_drop {α : Type} (p : α → Bool) (z : α) (l : List α) (k : Nat) (hk : k < l.length) : firstAt p (l.drop k) k = if p (l.getD k z) then (k : Int) else firstAt p (l.drop (k + 1)) ((k : Int) + 1) := by
  rw [List.drop_eq_getElem_cons hk, List.getD_eq_getElem?_getD, List.getElem?_eq_getElem hk]
  rfl

set_option maxHeartbeats 1000000 in
theorem indexFunc_int (g : Nat) (eg : ∀ args w, (callFunc g args).run Try.prog w = .ok (.enter g args) w) (p : Int → Bool) (A : Option Addr) (c : Nat) (l : List Int)
    (hp : ∀ x w, x ∈ l → Calls Try.prog g #[.int .i64 x] w fun e w' => e = .returned (.bool (p x)) ∧ Below w.heap.size w w')
    (w : World) (hC : ReadsInt w .i64 A l.length l) :
    Calls Try.prog 31 #[.slice A l.length c, .func (.func g) #[] #[]] w fun e w' => e = .returned (.int .i64 (firstAt p l 0)) ∧ Below w.heap.size w w' := by
  have hlen : l.length ≤ 9223372036854775807 := hC.2.1
  have HP := Aside0.mk hp
  have HC := Aside0.mk hC
  clear hp hC
  go_enter Try.func31, Try.ntmps31
  go_wp2
  go_loopw [8] (fun i wr => ∃ k : Nat, k ≤ l.length ∧ i = .int .i64 k ∧ Aside0 (Below w.heap.size w wr ∧ firstAt p l 0 = firstAt p (l.drop k) k)) (fun i _ => l.length - (intOf i).toNat)
  case atStart => exact ⟨0, Nat.zero_le _, rfl, ⟨Below.refl _ _, rfl⟩⟩
  case round =>
    obtain ⟨k, hk, rfl, HR⟩ := hrel
    by_cases hlt : k < l.length
    · obtain ⟨ad, rfl, hcell⟩ := (HC.out.below HR.out.1).at_ (k : Int) (by omega) (by omega)
      simp only [Int.toNat_natCast] at hcell
      have hx : rd l (k : Int) ∈ l := by unfold rd; simp [List.getD_eq_getElem?_getD, List.getElem?_eq_getElem hlt]
      have HD := Aside0.mk (firstAt_drop p 0 l k hlt)
      go_wp2_with fail
      refine (HP.out _ _ hx).mono ?_
      clear hx hcell
      rintro e w' ⟨rfl, hb⟩
      have HB := Aside0.mk hb
      clear hb
      by_cases hpx : p (rd l (k : Int)) = true
      · have HX := Aside0.mk hpx
        rw [hpx]
        clear hpx
        go_wp2
        go_ret
        exact ⟨by rw [HR.out.2, HD.out]; have := HX.out; unfold rd at this; simp at this; simp [this], HR.out.1.trans (HB.out.mono HR.out.1.size)⟩
      · have HX := Aside0.mk hpx
        rw [Bool.not_eq_true] at hpx
        rw [hpx]
        clear hpx
        go_wp2
        go_roundw
        case rel => exact ⟨k + 1, by omega, by go_num, ⟨HR.out.1.trans (HB.out.mono HR.out.1.size), by rw [HR.out.2, HD.out]; have := HX.out; unfold rd at this; simp at this; simp [this]⟩⟩
        case measure => simp [intOf]; omega
    · go_wp2
      go_ret
      obtain rfl : k = l.length := by omega
      exact ⟨by rw [HR.out.2]; simp [firstAt], HR.out.1⟩

theorem firstAt_ge {α : Type} (p : α → Bool) (l : List α) : ∀ i : Int, 0 ≤ i → (decide (firstAt p l i ≥ 0) = l.any p) := by
  induction l with
  | nil => intro i hi; simp [firstAt]
  | cons x r ih =>
    intro i hi
    unfold firstAt
    by_cases h : p x = true
    · simp [h, hi]
    · rw [if_neg h, ih (i + 1) (by omega)]; simp [h]

set_option maxHeartbeats 1000000 in
theorem containsFunc_int (g : Nat) (eg : ∀ args w, (callFunc g args).run Try.prog w = .ok (.enter g args) w) (p : Int → Bool) (A : Option Addr) (c : Nat) (l : List Int)
    (hp : ∀ x w, x ∈ l → Calls Try.prog g #[.int .i64 x] w fun e w' => e = .returned (.bool (p x)) ∧ Below w.heap.size w w')
    (w : World) (hC : ReadsInt w .i64 A l.length l) :
    Calls Try.prog 28 #[.slice A l.length c, .func (.func g) #[] #[]] w fun e w' => e = .returned (.bool (l.any p)) ∧ Below w.heap.size w w' := by
  have HP := Aside0.mk (indexFunc_int g eg p A c l hp w hC)
  have HF := Aside0.mk (firstAt_ge p l 0 (by omega))
  clear hp hC
  go_enter Try.func28, Try.ntmps28
  go_wp2_with fail
  refine HP.out.mono ?_
  rintro e w' ⟨rfl, hb⟩
  have HB := Aside0.mk hb
  clear hb
  go_wp2
  go_ret
  exact ⟨by rw [← HF.out]; rfl, HB.out⟩

set_option maxHeartbeats 1000000 in
theorem valid1 (n : Int) (w : World) : Calls Try.prog 29 #[.int .i64 n] w fun e w' => e = .returned (.bool (decide (n < 0) || decide (1000 < n))) ∧ Below w.heap.size w w' := by
  by_cases h : n < 0
  · go_enter Try.func29, Try.ntmps29
    go_wp2
    go_ret
    exact ⟨by simp [h], Below.refl _ _⟩
  · by_cases h2 : 1000 < n
    · go_enter Try.func29, Try.ntmps29
      go_wp2
      go_ret
      exact ⟨by simp [h, h2], Below.refl _ _⟩
    · go_enter Try.func29, Try.ntmps29
      go_wp2
      go_ret
      exact ⟨by simp [h, h2], Below.refl _ _⟩
theorem add_plain2 (g k j : Nat) : (⟨g, k, none⟩ : Addr).add j = ⟨g, k + j, none⟩ := by unfold Addr.add; split <;> simp_all

theorem eg29 (args : Array Value) (w : World) : (callFunc 29 args).run Try.prog w = .ok (.enter 29 args) w := by
  go_simp
set_option maxHeartbeats 1000000 in
theorem pipeValid (a b c d : Int) (w : World) : Calls Try.prog 23 #[.agg #[.int .i64 a, .int .i64 b, .int .i64 c, .int .i64 d]] w fun e w' =>
    e = .returned (.bool (!([a, b, c, d].any fun n => decide (n < 0) || decide (1000 < n)))) ∧ Below w.heap.size w w' := by
  go_enter Try.func23, Try.ntmps23
  go_wp2_with fail
  refine (containsFunc_int 29 eg29 (fun n => decide (n < 0) || decide (1000 < n)) _ 4 [a, b, c, d] (fun x w _ => valid1 x w) _ ?_).mono ?_
  · refine ⟨rfl, by simp, fun _ => ⟨_, rfl, fun j hj => ?_⟩⟩
    rw [add_plain2]
    simp only [List.length_cons, List.length_nil] at hj
    rcases j with _ | _ | _ | _ | j
    · go_simp
    · go_simp
    · go_simp
    · go_simp
    · omega
  rintro e w' ⟨rfl, hb⟩
  have HB := Aside0.mk hb
  clear hb
  go_wp2
  go_ret
  exact ⟨by simp, (((Below.refl _ _).alloc (Nat.le_refl _) _).alloc (by simp) _).trans (HB.out.mono (by simp; omega))⟩
end Go.Proofs.Ytmdbbfoejmakdaa.Hp

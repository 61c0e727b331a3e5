/-
  Plain laws: the printed functions count, Big, Size, Depth, Nest of the reference answer what szN, dpN, neN say. By this session, out of its own program (wip/gen).
-/
import Derived.Test.YtmdbbfoejmakdaaDoorHev
import Derived.Test.YtmdbbfoejmakdaaDoorPx6s
namespace Go.Proofs.YtmdbbfoejmakdaaDoor.Ha
open Go.RowKit Go.Proofs.YtmdbbfoejmakdaaDoorW.PrintWords Go.Proofs.YtmdbbfoejmakdaaDoorW.PrintLast Go.Proofs.YtmdbbfoejmakdaaDoorW.PrintMore Go.Proofs.YtmdbbfoejmakdaaDoor.P
set_option linter.unusedVariables false
set_option linter.unusedSimpArgs false

theorem refSize : ∀ (n : Nat) (x : Nd), SizeOf.sizeOf x ≤ n → szN x ≤ 1152921504606846976 → Ev fun k => ontimeref12_Size.f k x.f0 x.f1 x.f2 x.f3 = some (szN x : Int) := by
  intro n
  induction n with
  | zero => intro x hn; exact absurd hn (by cases x; simp)
  | succ n ih =>
    intro x hn hs
    have hsz := szN_eq x
    have hkl : x.f3.length ≤ szL x.f3 := szL_len x.f3
    obtain ⟨r, rfl, h⟩ := ev_loop (fun r => r = (szN x : Int)) x.f3.length (fun k i => ontimeref12_Size.l0 k (1 + szL (x.f3.take i) : Nat) (i : Int) x.f0 x.f1 x.f2 x.f3) (fun _ => True)
      (fun _ => ⟨_, rfl, Ev.all fun k => by simp only [ontimeref12_Size.l0]; rw [if_neg (by omega), List.take_length, hsz]⟩)
      (fun i hi _ => Or.inr ⟨trivial, by
        have hm := List.getElem_mem hi
        have h1 := szL_mem hm
        have h2 := szL_take x.f3 i x.f3[i] (get_some hi)
        have h3 := szL_take_le x.f3 (i + 1)
        refine (ih x.f3[i] (by have := kid_lt hm; omega) (by omega)).mono fun k hk => ?_
        simp only [ontimeref12_Size.l0]
        rw [if_pos (by omega), if_pos (by omega), rd_get hi, hk]
        simp only [Option.bind_some]
        rw [w64 (by omega) (by omega), w64 (by omega) (by omega), h2]
        congr 1
        omega⟩)
      trivial
    refine Ev.succ (h.mono fun k hk => ?_)
    simp only [ontimeref12_Size.f]
    rw [← hk]
    simp [szL]

theorem refDepth : ∀ (n : Nat) (x : Nd), SizeOf.sizeOf x ≤ n → szN x ≤ 1152921504606846976 → Ev fun k => ontimeref12_Depth.f k x.f0 x.f1 x.f2 x.f3 = some (dpN x : Int) := by
  intro n
  induction n with
  | zero => intro x hn; exact absurd hn (by cases x; simp)
  | succ n ih =>
    intro x hn hs
    have hsz := szN_eq x
    have hdp := dpN_eq x
    have hds := dp_le_sz x
    have hkl : x.f3.length ≤ szL x.f3 := szL_len x.f3
    obtain ⟨r, rfl, h⟩ := ev_loop (fun r => r = (dpN x : Int)) x.f3.length (fun k i => ontimeref12_Depth.l0 k (dpL (x.f3.take i) : Nat) (i : Int) x.f0 x.f1 x.f2 x.f3) (fun _ => True)
      (fun _ => ⟨_, rfl, Ev.all fun k => by simp only [ontimeref12_Depth.l0]; rw [if_neg (by omega), List.take_length, w64 (by omega) (by omega)]; congr 1; omega⟩)
      (fun i hi _ => Or.inr ⟨trivial, by
        have hm := List.getElem_mem hi
        have h1 := szL_mem hm
        have h2 := dpL_take x.f3 i x.f3[i] (get_some hi)
        refine (ih x.f3[i] (by have := kid_lt hm; omega) (by omega)).mono fun k hk => ?_
        simp only [ontimeref12_Depth.l0]
        rw [if_pos (by omega), if_pos (by omega), rd_get hi, hk]
        simp only [Option.bind_some]
        rw [w64 (x := (i : Int) + 1) (by omega) (by omega), h2]
        split
        · congr 1; omega
        · congr 1; omega⟩)
      trivial
    refine Ev.succ (h.mono fun k hk => ?_)
    simp only [ontimeref12_Depth.f]
    rw [← hk]
    simp [dpL]

theorem refNest : ∀ (n : Nat) (x : Nd), SizeOf.sizeOf x ≤ n → szN x ≤ 1152921504606846976 → Ev fun k => ontimeref12_Nest.f k x.f0 x.f1 x.f2 x.f3 = some (neN x : Int) := by
  intro n
  induction n with
  | zero => intro x hn; exact absurd hn (by cases x; simp)
  | succ n ih =>
    intro x hn hs
    have hsz := szN_eq x
    have hne := neN_eq x
    have hns := ne_le_sz x
    have hkl : x.f3.length ≤ szL x.f3 := szL_len x.f3
    obtain ⟨r, rfl, h⟩ := ev_loop (fun r => r = (neN x : Int)) x.f3.length (fun k i => ontimeref12_Nest.l0 k (neL (x.f3.take i) : Nat) (i : Int) x.f0 x.f1 x.f2 x.f3) (fun _ => True)
      (fun _ => ⟨_, rfl, Ev.all fun k => by
        simp only [ontimeref12_Nest.l0]
        rw [if_neg (by omega), List.take_length]
        unfold loopB at hne
        by_cases k1 : x.f0 = 42
        · rw [if_pos k1, if_pos (by simp [k1])] at *
          rw [w64 (by omega) (by omega)]; congr 1; omega
        · by_cases k2 : x.f0 = 43
          · rw [if_neg k1, if_pos k2]
            rw [if_pos (by simp [k2])] at hne
            rw [w64 (by omega) (by omega)]; congr 1; omega
          · rw [if_neg k1, if_neg k2]
            rw [if_neg (by simp [k1, k2])] at hne
            congr 1; omega⟩)
      (fun i hi _ => Or.inr ⟨trivial, by
        have hm := List.getElem_mem hi
        have h1 := szL_mem hm
        have h2 := neL_take x.f3 i x.f3[i] (get_some hi)
        refine (ih x.f3[i] (by have := kid_lt hm; omega) (by omega)).mono fun k hk => ?_
        simp only [ontimeref12_Nest.l0]
        rw [if_pos (by omega), if_pos (by omega), rd_get hi, hk]
        simp only [Option.bind_some]
        rw [w64 (x := (i : Int) + 1) (by omega) (by omega), h2]
        split
        · congr 1; omega
        · congr 1; omega⟩)
      trivial
    refine Ev.succ (h.mono fun k hk => ?_)
    simp only [ontimeref12_Nest.f]
    rw [← hk]
    simp [neL]

end Go.Proofs.YtmdbbfoejmakdaaDoor.Ha

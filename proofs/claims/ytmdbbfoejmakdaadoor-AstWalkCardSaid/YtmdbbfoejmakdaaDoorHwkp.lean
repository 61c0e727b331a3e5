/-
  Plain law: the reference's Paths are the visits' paths. By this session, out of its own program (wip/gen).
-/
import Derived.Test.YtmdbbfoejmakdaaDoorHvis
import Derived.Test.YtmdbbfoejmakdaaDoorPx6p
namespace Go.Proofs.YtmdbbfoejmakdaaDoor.Ha
open Go.RowKit Go.Proofs.YtmdbbfoejmakdaaDoorW.PrintWords Go.Proofs.YtmdbbfoejmakdaaDoorW.PrintLast Go.Proofs.YtmdbbfoejmakdaaDoorW.PrintMore Go.Proofs.YtmdbbfoejmakdaaDoor.P
set_option linter.unusedVariables false
set_option linter.unusedSimpArgs false
theorem pthL_snoc (l : List Nd) (i k : Nat) (x : Nd) (h : l[k]? = some x) : pthL i (l.take (k + 1)) = pthL i (l.take k) ++ (pthN x).map (fun q => ((i + k : Nat) : Int) :: q) := by
  induction l generalizing i k with
  | nil => simp at h
  | cons y r ih =>
    cases k with
    | zero => simp at h; subst h; simp [pthL]
    | succ k =>
      simp at h
      rw [List.take_succ_cons, List.take_succ_cons, pthL, pthL, ih (i + 1) k h, List.append_assoc, show i + 1 + k = i + (k + 1) by omega]
theorem pthL_take_len (l : List Nd) (i k : Nat) : (pthL i (l.take k)).length ≤ szL l := by
  have h := wkL_path (l.take k) [] i
  have h2 := congrArg List.length h
  rw [List.length_map, List.length_map, wkL_len] at h2
  have := szL_take_le l k
  omega
theorem rd_list (l : List (List Int)) (i : Nat) (h : i < l.length) : rd_L4 l (i : Int) = l[i] := by simp [rd_L4, List.getD_eq_getElem?_getD, List.getElem?_eq_getElem h]
set_option maxHeartbeats 1000000 in
theorem refPaths : ∀ (n : Nat) (x : Nd), SizeOf.sizeOf x ≤ n → szN x ≤ 1000000 → Ev fun k => ontimeref12_Paths.f k x.f0 x.f1 x.f2 x.f3 = some (pthN x) := by
  intro n
  induction n with
  | zero => intro x hn; exact absurd hn (by cases x; simp)
  | succ n ih =>
    intro x hn hs
    have hsz := szN_eq x
    have hkl : x.f3.length ≤ szL x.f3 := szL_len x.f3
    have G : ∀ d i, i + d = x.f3.length → Ev fun k => ontimeref12_Paths.l0 k ([] :: pthL 0 (x.f3.take i)) (i : Int) x.f0 x.f1 x.f2 x.f3 = some (pthN x) := by
      intro d
      induction d with
      | zero =>
        intro i hi
        obtain rfl : i = x.f3.length := by omega
        exact Ev.succ (Ev.all fun k => by simp only [ontimeref12_Paths.l0]; rw [if_neg (by omega), List.take_length, pthN_eq])
      | succ d ihd =>
        intro i hi
        have hlt : i < x.f3.length := by omega
        have hm := List.getElem_mem hlt
        have h1 := szL_mem hm
        have hk := ih x.f3[i] (by have := kid_lt hm; omega) (by omega)
        have hnext := ihd (i + 1) (by omega)
        rw [pthL_snoc x.f3 0 i x.f3[i] (get_some hlt), Nat.zero_add] at hnext
        have hacc := pthL_take_len x.f3 0 i
        have hpl := pth_len x.f3[i]
        generalize pthL 0 (x.f3.take i) = acc at *
        have hshort : ∀ j (hj : j < (pthN x.f3[i]).length), (pthN x.f3[i])[j].length ≤ 2000000 := fun j hj => by
          have h2 := pth_short x.f3[i] _ (List.getElem_mem hj)
          have h3 := dp_le_sz x.f3[i]
          omega
        generalize hT : pthN x.f3[i] = T at *
        obtain ⟨r, rfl, h⟩ := ev_loop (fun r => r = pthN x) T.length (fun k j => ontimeref12_Paths.l1 k ([] :: (acc ++ (T.take j).map (fun q => (i : Int) :: q))) (i : Int) T (j : Int) x.f0 x.f1 x.f2 x.f3) (fun _ => True)
          (fun _ => ⟨_, rfl, hnext.mono fun k hk => by
            simp only [ontimeref12_Paths.l1]
            rw [if_neg (by omega), List.take_length, w64 (by omega) (by omega)]
            exact hk⟩)
          (fun j hj _ => Or.inr ⟨trivial, Ev.all fun k => by
            have h2 := hshort j hj
            simp only [ontimeref12_Paths.l1, Option.bind_some]
            rw [if_pos (by omega), if_pos (by omega), rd_list T j hj, if_pos (by simp; omega), if_pos (by simp; omega), w64 (by omega) (by omega)]
            have e : (T.take (j + 1)).map (fun q => (i : Int) :: q) = (T.take j).map (fun q => (i : Int) :: q) ++ [(i : Int) :: T[j]] := by
              rw [List.take_succ_eq_append_getElem hj, List.map_append]; rfl
            rw [e]
            simp⟩)
          trivial
        refine Ev.succ ((hk.and h).mono fun k hk => ?_)
        simp only [ontimeref12_Paths.l0]
        rw [if_pos (by omega), if_pos (by omega), rd_get hlt, hk.1, Option.bind_some]
        have h3 := hk.2
        simpa using h3
    refine Ev.succ ((G x.f3.length 0 (by omega)).mono fun k hk => ?_)
    simp only [ontimeref12_Paths.f]
    simpa [pthL] using hk
end Go.Proofs.YtmdbbfoejmakdaaDoor.Ha

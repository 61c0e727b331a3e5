/-
  Plain laws of the visits: their paths; the node at a visit's path is the visit's node. By this session, out of its own program (wip/gen).
-/
import Derived.Test.YtmdbbfoejmakdaaDoorHwalk
import Derived.Test.YtmdbbfoejmakdaaDoorHat
import Derived.Test.YtmdbbfoejmakdaaDoorHev
namespace Go.Proofs.YtmdbbfoejmakdaaDoor.Ha
open Go.RowKit Go.Proofs.YtmdbbfoejmakdaaDoorW.PrintWords Go.Proofs.YtmdbbfoejmakdaaDoorW.PrintLast Go.Proofs.YtmdbbfoejmakdaaDoorW.PrintMore Go.Proofs.YtmdbbfoejmakdaaDoor.P
set_option linter.unusedVariables false
set_option linter.unusedSimpArgs false
mutual
/-- The paths of all nodes, in pre-order. -/
def pthN : Nd → List (List Int)
  | ⟨_, _, _, ks⟩ => [] :: pthL 0 ks
def pthL : Nat → List Nd → List (List Int)
  | _, [] => []
  | i, x :: r => (pthN x).map (fun q => (i : Int) :: q) ++ pthL (i + 1) r
end
theorem pthN_eq (x : Nd) : pthN x = [] :: pthL 0 x.f3 := by cases x; rw [pthN]
mutual
theorem wk_path : ∀ (x : Nd) (p : List Int), (wkN p x).map Prod.fst = (pthN x).map (fun q => p ++ q)
  | ⟨a, b, c, ks⟩, p => by
    rw [wkN, pthN, List.map_cons, List.map_cons, List.append_nil, wkL_path ks p 0]
theorem wkL_path : ∀ (l : List Nd) (p : List Int) (i : Nat), (wkL p i l).map Prod.fst = (pthL i l).map (fun q => p ++ q)
  | [], p, i => by simp [wkL, pthL]
  | x :: r, p, i => by
    rw [wkL, pthL, List.map_append, List.map_append, wkL_path r p (i + 1), wk_path x (p ++ [(i : Int)]), List.map_map]
    simp
end
theorem wk_path0 (x : Nd) : (wkN [] x).map Prod.fst = pthN x := by rw [wk_path]; simp
theorem rd_cons (l : List Nd) (i : Nat) (y : Nd) (h : l[i]? = some y) : rd_T24 l (i : Int) = y := by simp [rd_T24, List.getD_eq_getElem?_getD, h]
mutual
theorem wk_at : ∀ (x : Nd) (p : List Int) (q : List Int) (y : Nd), (q, y) ∈ wkN p x → ∃ r, q = p ++ r ∧ atN x r = (y, true)
  | ⟨a, b, c, ks⟩, p, q, y, h => by
    rw [wkN] at h
    cases h with
    | head => exact ⟨[], by simp, by rw [atN]⟩
    | tail _ h =>
      obtain ⟨j, z, r, hz, rfl, hr⟩ := wkL_at ks p 0 q y h
      have hlt := (List.getElem?_eq_some_iff.1 hz).1
      refine ⟨((0 + j : Nat) : Int) :: r, by simp, ?_⟩
      rw [atN, if_neg (by simp only; omega), Nat.zero_add]
      simp only
      rw [rd_cons ks j z hz]
      exact hr
theorem wkL_at : ∀ (l : List Nd) (p : List Int) (i : Nat) (q : List Int) (y : Nd), (q, y) ∈ wkL p i l → ∃ (j : Nat) (z : Nd) (r : List Int), l[j]? = some z ∧ q = p ++ (((i + j : Nat) : Int) :: r) ∧ atN z r = (y, true)
  | [], p, i, q, y, h => by rw [wkL] at h; cases h
  | x :: t, p, i, q, y, h => by
    rw [wkL, List.mem_append] at h
    rcases h with h | h
    · obtain ⟨r, rfl, hr⟩ := wk_at x _ q y h
      exact ⟨0, x, r, rfl, by simp, hr⟩
    · obtain ⟨j, z, r, hz, rfl, hr⟩ := wkL_at t p (i + 1) q y h
      exact ⟨j + 1, z, r, by simpa using hz, by rw [show i + 1 + j = i + (j + 1) by omega], hr⟩
end
theorem wk_at0 {x : Nd} {q : List Int} {y : Nd} (h : (q, y) ∈ wkN [] x) : atN x q = (y, true) := by
  obtain ⟨r, rfl, hr⟩ := wk_at x [] q y h
  exact hr
mutual
theorem wk_len : ∀ (x : Nd) (p : List Int), (wkN p x).length = szN x
  | ⟨a, b, c, ks⟩, p => by rw [wkN, szN, List.length_cons, wkL_len ks p 0]; omega
theorem wkL_len : ∀ (l : List Nd) (p : List Int) (i : Nat), (wkL p i l).length = szL l
  | [], p, i => by simp [wkL, szL]
  | x :: r, p, i => by rw [wkL, szL, List.length_append, wk_len x, wkL_len r]
end
theorem pth_len (x : Nd) : (pthN x).length = szN x := by rw [← wk_path0, List.length_map, wk_len]
mutual
theorem pth_short : ∀ (x : Nd) (q : List Int), q ∈ pthN x → q.length + 1 ≤ dpN x
  | ⟨a, b, c, ks⟩, q, h => by
    rw [pthN] at h
    rw [dpN]
    cases h with
    | head => simp
    | tail _ h => have := pthL_short ks 0 q h; omega
theorem pthL_short : ∀ (l : List Nd) (i : Nat) (q : List Int), q ∈ pthL i l → q.length ≤ dpL l
  | [], i, q, h => by rw [pthL] at h; cases h
  | x :: r, i, q, h => by
    rw [pthL, List.mem_append] at h
    rw [dpL]
    rcases h with h | h
    · obtain ⟨q', hq', rfl⟩ := List.mem_map.1 h
      have := pth_short x q' hq'
      simp
      omega
    · have := pthL_short r (i + 1) q h
      omega
end
end Go.Proofs.YtmdbbfoejmakdaaDoor.Ha

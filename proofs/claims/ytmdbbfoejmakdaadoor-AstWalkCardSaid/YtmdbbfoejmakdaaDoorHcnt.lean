/-
  Plain laws: the measures over the visits of a tree; small words on trees in memory and on paths. By this session, out of its own program (wip/gen).
-/
import Derived.Test.YtmdbbfoejmakdaaDoorHwalk
import Derived.Test.YtmdbbfoejmakdaaDoorHat
import Derived.Test.YtmdbbfoejmakdaaDoorHvis
namespace Go.Proofs.YtmdbbfoejmakdaaDoor.Ha
open Go.RowKit Go.Proofs.YtmdbbfoejmakdaaDoorW.PrintWords Go.Proofs.YtmdbbfoejmakdaaDoorW.PrintLast Go.Proofs.YtmdbbfoejmakdaaDoorW.PrintMore Go.Proofs.YtmdbbfoejmakdaaDoor.P
set_option linter.unusedVariables false
set_option linter.unusedSimpArgs false
/-- The greatest of a list's measures. -/
def mx {α : Type} (f : α → Nat) : List α → Nat
  | [] => 0
  | x :: r => max (f x) (mx f r)
theorem mx_append {α : Type} (f : α → Nat) (l m : List α) : mx f (l ++ m) = max (mx f l) (mx f m) := by
  induction l with
  | nil => simp [mx]
  | cons x r ih => rw [List.cons_append, mx, mx, ih, Nat.max_assoc]
theorem mx_snoc {α : Type} (f : α → Nat) (l : List α) (x : α) : mx f (l ++ [x]) = max (mx f l) (f x) := by rw [mx_append]; simp [mx]
theorem mx_map {α β : Type} (f : β → Nat) (g : α → β) (l : List α) : mx f (l.map g) = mx (fun x => f (g x)) l := by
  induction l with
  | nil => rfl
  | cons x r ih => rw [List.map_cons, mx, mx, ih]
theorem mx_shift {α : Type} (f g : α → Nat) (c : Nat) (l : List α) (hl : l ≠ []) (h : ∀ x ∈ l, g x = c + f x) : mx g l = c + mx f l := by
  induction l with
  | nil => exact absurd rfl hl
  | cons x r ih =>
    rw [mx, mx, h x (List.mem_cons_self ..)]
    cases r with
    | nil => simp [mx]
    | cons y r =>
      rw [ih (by simp) (fun z hz => h z (List.mem_cons_of_mem _ hz))]
      omega
theorem mx_le {α : Type} {f : α → Nat} {l : List α} {x : α} (h : x ∈ l) : f x ≤ mx f l := by
  induction l with
  | nil => cases h
  | cons y r ih =>
    rw [mx]
    cases h with
    | head => omega
    | tail _ h => have := ih h; omega
theorem pthN_ne (x : Nd) : pthN x ≠ [] := by rw [pthN_eq]; simp
mutual
theorem mx_len : ∀ x : Nd, mx List.length (pthN x) + 1 = dpN x
  | ⟨a, b, c, ks⟩ => by
    rw [pthN, dpN, mx, mxL_len ks 0]
    simp
    omega
theorem mxL_len : ∀ (l : List Nd) (i : Nat), mx List.length (pthL i l) = dpL l
  | [], i => by simp [pthL, mx, dpL]
  | x :: r, i => by
    rw [pthL, mx_append, dpL, mxL_len r (i + 1), mx_map, mx_shift List.length _ 1 _ (pthN_ne x) (fun q _ => by simp; omega), ← mx_len x]
    omega
end
/-- The loops above and at a node. -/
def lp : Nd → List Int → Nat
  | x, [] => if loopB x.f0 then 1 else 0
  | x, i :: r => (if loopB x.f0 then 1 else 0) + lp (rd_T24 x.f3 i) r
theorem mem_pthL (l : List Nd) (i : Nat) (q : List Int) (h : q ∈ pthL i l) : ∃ (j : Nat) (z : Nd) (r : List Int), l[j]? = some z ∧ q = ((i + j : Nat) : Int) :: r ∧ r ∈ pthN z := by
  induction l generalizing i with
  | nil => rw [pthL] at h; cases h
  | cons x t ih =>
    rw [pthL, List.mem_append] at h
    rcases h with h | h
    · obtain ⟨r, hr, rfl⟩ := List.mem_map.1 h
      exact ⟨0, x, r, rfl, rfl, hr⟩
    · obtain ⟨j, z, r, hz, rfl, hr⟩ := ih (i + 1) h
      exact ⟨j + 1, z, r, by simpa using hz, by rw [show i + 1 + j = i + (j + 1) by omega], hr⟩
mutual
theorem mx_lp : ∀ x : Nd, mx (lp x) (pthN x) = neN x
  | ⟨a, b, c, ks⟩ => by
    rw [pthN, neN, mx, lp]
    cases hk : ks with
    | nil => simp [pthL, mx, neL]
    | cons y r =>
      rw [← hk]
      have h2 : mx (lp ⟨a, b, c, ks⟩) (pthL 0 ks) = (if loopB a then 1 else 0) + mx (fun q => match q with | [] => 0 | i :: r => lp (rd_T24 ks i) r) (pthL 0 ks) := by
        refine mx_shift _ _ _ _ (by rw [hk, pthL]; simp [pthN_ne]) (fun q hq => ?_)
        obtain ⟨j, z, r, _, rfl, _⟩ := mem_pthL ks 0 q hq
        rfl
      rw [h2, mxL_lp ks 0 ks (fun j z hz => by rw [Nat.zero_add]; exact hz)]
      split <;> omega
theorem mxL_lp : ∀ (l : List Nd) (i : Nat) (ks : List Nd) (h : ∀ (j : Nat) (z : Nd), l[j]? = some z → ks[i + j]? = some z), mx (fun q => match q with | [] => 0 | i :: r => lp (rd_T24 ks i) r) (pthL i l) = neL l
  | [], i, ks, h => by simp [pthL, mx, neL]
  | x :: r, i, ks, h => by
    rw [pthL, mx_append, neL, mxL_lp r (i + 1) ks (fun j z hz => by rw [show i + 1 + j = i + (j + 1) by omega]; exact h (j + 1) z (by simpa using hz)), mx_map, ← mx_lp x]
    have hx : rd_T24 ks (i : Int) = x := rd_cons ks i x (h 0 x rfl)
    simp only [hx]
end
theorem atN_snoc : ∀ (q : List Int) (x y : Nd) (i : Int), atN x q = (y, true) → atN x (q ++ [i]) = if i < 0 ∨ (y.f3.length : Int) ≤ i then (z24, false) else (rd_T24 y.f3 i, true)
  | [], x, y, i, h => by
    rw [atN] at h
    obtain rfl : x = y := congrArg Prod.fst h
    rw [List.nil_append, atN]
    split
    · rfl
    · rw [atN]
  | j :: r, x, y, i, h => by
    rw [atN] at h
    rw [List.cons_append, atN]
    split
    · rename_i hb
      rw [if_pos hb] at h
      have := congrArg Prod.snd h
      cases this
    · rename_i hb
      rw [if_neg hb] at h
      exact atN_snoc r _ y i h
theorem TreeAt.mono {G G' : World → Prop} {x : Nd} {A : Option Addr} {c : Nat} (h : TreeAt G x A c) (hG : ∀ W, G' W → G W) : TreeAt G' x A c := by
  induction h with
  | mk x A c ad A3 c3 hl hc hA h hk ih => exact .mk x A c ad A3 c3 hl hc hA (fun k y hy W hW => h k y hy W (hG W hW)) ih
/-- The first k indices of a path, as a slice of it. -/
theorem path_take {b : Nat} {W : World} {g cap : Nat} {p : List Int} (h : pathAt b W (.slice (some ⟨g, 0, none⟩) p.length cap) p) (hl : p.length ≤ 1000000) (k : Nat) (hk : k ≤ p.length) : Kd.C (Kd.int .i64) W (some ⟨g, 0, none⟩) (p.take k).length (p.take k) := by
  refine ⟨rfl, by simp; omega, fun _ => ⟨⟨g, 0, none⟩, rfl, fun j y hj => ⟨[.int .i64 y], rfl, rfl, fun i u hu => ?_⟩⟩⟩
  have hi : i = 0 := by
    have := (List.getElem?_eq_some_iff.1 hu).1
    simp at this
    exact this
  subst hi
  simp at hu
  subst hu
  have h1 := (List.getElem?_eq_some_iff.1 hj).1
  rw [show j * (Kd.int .i64).sz + 0 = j from by show j * 1 + 0 = j; omega]
  refine h.cells (g := g) rfl j _ ?_
  rw [List.getElem?_take_of_lt (by simp at h1; omega)] at hj
  rw [List.getElem?_map, hj]
  rfl
end Go.Proofs.YtmdbbfoejmakdaaDoor.Ha

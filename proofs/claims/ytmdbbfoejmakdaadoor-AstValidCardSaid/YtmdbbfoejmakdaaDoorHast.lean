/-
  The contracts of ast.fold, Size, Depth and Nest: on a tree of at most 2^60 nodes they return its numbers. By this session, out of its own program (wip/gen).
-/
import Derived.Test.YtmdbbfoejmakdaaDoorPx0
import Derived.Lib.SmallJoins
namespace Go.Proofs.YtmdbbfoejmakdaaDoor.Ha
open Go.RowKit Go.Proofs.YtmdbbfoejmakdaaDoorW.PrintWords Go.Proofs.YtmdbbfoejmakdaaDoorW.PrintLast Go.Proofs.YtmdbbfoejmakdaaDoorW.PrintMore Go.Proofs.YtmdbbfoejmakdaaDoor.P
set_option linter.unusedVariables false
set_option linter.unusedSimpArgs false
theorem maxInts (k k' : IntKind) (x y : Int) : Builtin.max2 (.int k x) (.int k' y) = pure (.int k (if x < y then y else x)) := by simp only [Builtin.max2, gt_iff_lt]
theorem minInts (k k' : IntKind) (x y : Int) : Builtin.min2 (.int k x) (.int k' y) = pure (.int k (if y < x then y else x)) := by simp only [Builtin.min2]
theorem maxPair (ats : Array TypeId) (ty : TypeId) (a b : Value) : Builtin.max_ ats ty #[a, b] = (Builtin.max2 a b >>= fun s => pure s) := by simp only [Builtin.max_, List.foldlM_cons, List.foldlM_nil]
theorem minPair (ats : Array TypeId) (ty : TypeId) (a b : Value) : Builtin.min_ ats ty #[a, b] = (Builtin.min2 a b >>= fun s => pure s) := by simp only [Builtin.min_, List.foldlM_cons, List.foldlM_nil]
attribute [local go_sem] maxInts minInts maxPair minPair

theorem bret {a b : Bool} (h : a = b) : Ending.returned (.bool a) = .returned (.bool b) := by rw [h]
theorem iret {k : IntKind} {a b : Int} (h : a = b) : Ending.returned (.int k a) = .returned (.int k b) := by rw [h]
theorem w64 {x : Int} (h1 : -9223372036854775808 ≤ x) (h2 : x ≤ 9223372036854775807) : wrap64 x = x := by unfold wrap64; omega
theorem box_new (w : World) (cs : Array Value) (t : TypeId) (j : Nat) : (w.alloc (.cells cs t)).cell? ⟨w.heap.size, j, none⟩ = cs[j]? := World.cell?_alloc_mark w cs t (0, 0) j
theorem box_keep {w1 w2 : World} {B : Nat} {cs : Array Value} (hb : Below w1.heap.size w1 w2) (hB : B < w1.heap.size) (h : ∀ j, w1.cell? ⟨B, j, none⟩ = cs[j]?) (j : Nat) : w2.cell? ⟨B, j, none⟩ = cs[j]? :=
  (hb.cell (p := ⟨B, j, none⟩) hB).trans (h j)
abbrev Nd := S24
abbrev kNd := k24
/-- A row of nodes, later on. -/
theorem C_keep {w w1 : World} {A : Option Addr} {n : Nat} {xs : List Nd} (h : Kd.C kNd w A n xs) (hb : Below w.heap.size w w1) : Kd.C kNd w1 A n xs := Kd.C_below h hb

set_option maxHeartbeats 2000000 in
theorem fold (g h : Nat) (eg : ∀ args w, (callFunc g args).run Tryd.prog w = .ok (.enter g args) w) (eh : ∀ args w, (callFunc h args).run Tryd.prog w = .ok (.enter h args) w)
    (f : Nd → Int) (F : Nat → Int) (a0 a1 : Int) (a2 : ByteArray) (A : Option Addr) (c : Nat) (ks : List Nd)
    (hf : ∀ (x : Nd) (A' : Option Addr) (c' : Nat) (w' : World), x ∈ ks → Kd.C kNd w' A' x.f3.length x.f3 → x.f3.length ≤ c' → Calls Tryd.prog g #[.agg #[.int .u8 x.f0, .int .i64 x.f1, .string x.f2, .slice A' x.f3.length c']] w' fun e w'' => e = .returned (.int .i64 (f x)) ∧ Below w'.heap.size w' w'')
    (hF0 : F 0 = 0) (hc : ∀ (k : Nat) (x : Nd) (w' : World), ks[k]? = some x → Calls Tryd.prog h #[.int .i64 (F k), .int .i64 (f x)] w' fun e w'' => e = .returned (.int .i64 (F (k + 1))) ∧ w' = w'')
    (w : World) (hC : Kd.C kNd w A ks.length ks) (hcap : ks.length ≤ c) :
    Calls Tryd.prog 86 #[.agg #[.int .u8 a0, .int .i64 a1, .string a2, .slice A ks.length c], .func (.func g) #[] #[], .func (.func h) #[] #[]] w fun e w' => e = .returned (.int .i64 (F ks.length)) ∧ Below w.heap.size w w' := by
  have hlen : ks.length ≤ 9223372036854775807 := hC.2.1
  have HF := Aside0.mk hf
  have HH := Aside0.mk hc
  have HC := Aside0.mk hC
  have HF0 := Aside0.mk hF0
  clear hf hc hC hF0
  go_enter Tryd.func86, Tryd.ntmps86
  go_wp2
  go_loopw [7, 13] (fun v i wr => ∃ k : Nat, k ≤ ks.length ∧ v = .int .i64 (F k) ∧ i = .int .i64 k ∧ Aside0 (Below w.heap.size w wr)) (fun _ i _ => ks.length - (intOf i).toNat)
  case atStart => exact ⟨0, Nat.zero_le _, by rw [HF0.out], rfl, ⟨(Below.refl _ _).alloc (Nat.le_refl _) _⟩⟩
  case round =>
    obtain ⟨k, hk, rfl, rfl, HB⟩ := hrel
    by_cases hlt : k < ks.length
    · have HC1 := Aside0.mk (C_keep HC.out HB.out)
      obtain ⟨ad, A3, c3, rfl, g0, g1, g2, g3, l3, hC3⟩ := at_T24 HC1.out (k : Int) (by omega) (by omega)
      simp only [Int.toNat_natCast] at g0 g1 g2 g3
      have hx : ks[k]? = some (rd_T24 ks k) := by simp [rd_T24, List.getD_eq_getElem?_getD, List.getElem?_eq_getElem hlt]
      have hm : rd_T24 ks k ∈ ks := List.mem_of_getElem? hx
      generalize rd_T24 ks k = x at *
      have HX := Aside0.mk hx
      have HM := Aside0.mk hm
      have HC3 := Aside0.mk hC3
      have HL3 := Aside0.mk l3
      clear hx hm hC3 HC1
      go_wp2
      refine (HF.out x A3 c3 _ HM.out (C_keep HC3.out ((Below.refl _ _).alloc (Nat.le_refl _) _)) HL3.out).mono ?_
      rintro e w' ⟨rfl, hB1⟩
      have HB1 := Aside0.mk hB1
      clear hB1
      go_wp2
      refine (HH.out k x _ HX.out).mono ?_
      rintro e w' ⟨rfl, rfl⟩
      go_wp2
      go_roundw
      case rel => exact ⟨k + 1, by omega, rfl, by go_num, ⟨(HB.out.alloc HB.out.size _).trans (HB1.out.mono (by have := HB.out.size; rw [World.size_alloc]; omega))⟩⟩
      case measure => simp [intOf]; omega
    · have ek : k = ks.length := by omega
      subst ek
      go_wp2
      go_ret
      exact ⟨rfl, HB.out⟩

mutual
def szN : Nd → Nat
  | ⟨_, _, _, ks⟩ => 1 + szL ks
def szL : List Nd → Nat
  | [] => 0
  | x :: r => szN x + szL r
end
mutual
def dpN : Nd → Nat
  | ⟨_, _, _, ks⟩ => 1 + dpL ks
def dpL : List Nd → Nat
  | [] => 0
  | x :: r => max (dpN x) (dpL r)
end
def loopB (k : Int) : Bool := k == 42 || k == 43
mutual
def neN : Nd → Nat
  | ⟨k, _, _, ks⟩ => (if loopB k then 1 else 0) + neL ks
def neL : List Nd → Nat
  | [] => 0
  | x :: r => max (neN x) (neL r)
end
theorem szN_eq (x : Nd) : szN x = 1 + szL x.f3 := by cases x; rw [szN]
theorem dpN_eq (x : Nd) : dpN x = 1 + dpL x.f3 := by cases x; rw [dpN]
theorem neN_eq (x : Nd) : neN x = (if loopB x.f0 then 1 else 0) + neL x.f3 := by cases x; rw [neN]
theorem kid_lt {x y : Nd} (h : y ∈ x.f3) : SizeOf.sizeOf y < SizeOf.sizeOf x := by
  cases x with
  | mk a b c ks =>
    have h : y ∈ ks := h
    have h1 := List.sizeOf_lt_of_mem h
    have h2 : SizeOf.sizeOf (S24.mk a b c ks) = 1 + SizeOf.sizeOf a + SizeOf.sizeOf b + SizeOf.sizeOf c + SizeOf.sizeOf ks := S24.mk.sizeOf_spec a b c ks
    omega
theorem szL_mem {l : List Nd} {y : Nd} (h : y ∈ l) : szN y ≤ szL l := by
  induction l with
  | nil => cases h
  | cons x r ih =>
    rw [szL]
    cases h with
    | head => omega
    | tail _ h => have := ih h; omega
theorem szL_take (l : List Nd) (k : Nat) (x : Nd) (h : l[k]? = some x) : szL (l.take (k + 1)) = szL (l.take k) + szN x := by
  induction l generalizing k with
  | nil => simp at h
  | cons y r ih =>
    cases k with
    | zero => simp at h; subst h; simp [szL]
    | succ k => simp at h; rw [List.take_succ_cons, List.take_succ_cons, szL, szL, ih k h]; omega
theorem dpL_take (l : List Nd) (k : Nat) (x : Nd) (h : l[k]? = some x) : dpL (l.take (k + 1)) = max (dpL (l.take k)) (dpN x) := by
  induction l generalizing k with
  | nil => simp at h
  | cons y r ih =>
    cases k with
    | zero => simp at h; subst h; simp [dpL]
    | succ k => simp at h; rw [List.take_succ_cons, List.take_succ_cons, dpL, dpL, ih k h]; omega
theorem neL_take (l : List Nd) (k : Nat) (x : Nd) (h : l[k]? = some x) : neL (l.take (k + 1)) = max (neL (l.take k)) (neN x) := by
  induction l generalizing k with
  | nil => simp at h
  | cons y r ih =>
    cases k with
    | zero => simp at h; subst h; simp [neL]
    | succ k => simp at h; rw [List.take_succ_cons, List.take_succ_cons, neL, neL, ih k h]; omega
theorem szL_take_le (l : List Nd) (k : Nat) : szL (l.take k) ≤ szL l := by
  induction l generalizing k with
  | nil => simp [szL]
  | cons y r ih =>
    cases k with
    | zero => simp [szL]
    | succ k => rw [List.take_succ_cons, szL, szL]; have := ih k; omega
theorem szN_pos (x : Nd) : 1 ≤ szN x := by rw [szN_eq]; omega
theorem szL_len (l : List Nd) : l.length ≤ szL l := by
  induction l with
  | nil => simp
  | cons x r ih => rw [szL, List.length_cons]; have := szN_pos x; omega
mutual
theorem dp_le_sz : ∀ x : Nd, dpN x ≤ szN x
  | ⟨_, _, _, ks⟩ => by rw [dpN, szN]; have := dpL_le_sz ks; omega
theorem dpL_le_sz : ∀ l : List Nd, dpL l ≤ szL l
  | [] => by simp [dpL]
  | x :: r => by rw [dpL, szL]; have := dp_le_sz x; have := dpL_le_sz r; omega
end
mutual
theorem ne_le_sz : ∀ x : Nd, neN x ≤ szN x
  | ⟨k, _, _, ks⟩ => by rw [neN, szN]; have := neL_le_sz ks; split <;> omega
theorem neL_le_sz : ∀ l : List Nd, neL l ≤ szL l
  | [] => by simp [neL]
  | x :: r => by rw [neL, szL]; have := ne_le_sz x; have := neL_le_sz r; omega
end

/-- The call of a function value. -/
theorem enter_sum (args : Array Value) (w : World) : (callFunc 87 args).run Tryd.prog w = .ok (.enter 87 args) w := by go_simp
theorem enter_greater (args : Array Value) (w : World) : (callFunc 88 args).run Tryd.prog w = .ok (.enter 88 args) w := by go_simp
theorem enter_Size (args : Array Value) (w : World) : (callFunc 29 args).run Tryd.prog w = .ok (.enter 29 args) w := by go_simp
theorem enter_Depth (args : Array Value) (w : World) : (callFunc 31 args).run Tryd.prog w = .ok (.enter 31 args) w := by go_simp
theorem enter_Nest (args : Array Value) (w : World) : (callFunc 33 args).run Tryd.prog w = .ok (.enter 33 args) w := by go_simp
theorem sum (a b : Int) (w : World) (h0 : -9223372036854775808 ≤ a + b) (h1 : a + b ≤ 9223372036854775807) : Calls Tryd.prog 87 #[.int .i64 a, .int .i64 b] w fun e w'' => e = .returned (.int .i64 (a + b)) ∧ w = w'' := by
  go_enter Tryd.func87, Tryd.ntmps87
  go_wp2
  go_ret
  exact ⟨rfl, rfl⟩
theorem greater (a b : Int) (w : World) : Calls Tryd.prog 88 #[.int .i64 a, .int .i64 b] w fun e w'' => e = .returned (.int .i64 (max a b)) ∧ w = w'' := by
  go_enter Tryd.func88, Tryd.ntmps88
  by_cases h : a ≤ b
  · have e : max a b = b := by omega
    rw [e]
    go_wp2
    all_goals (go_ret; first | exact ⟨rfl, rfl⟩ | exact ⟨iret (by omega), rfl⟩)
  · have e : max a b = a := by omega
    rw [e]
    go_wp2
    all_goals (go_ret; first | exact ⟨rfl, rfl⟩ | exact ⟨iret (by omega), rfl⟩)

set_option maxHeartbeats 2000000 in
theorem size_n : ∀ (n : Nat) (x : Nd) (A : Option Addr) (c : Nat) (w : World), SizeOf.sizeOf x ≤ n → szN x ≤ 1152921504606846976 → Kd.C kNd w A x.f3.length x.f3 → x.f3.length ≤ c →
    Calls Tryd.prog 29 #[.agg #[.int .u8 x.f0, .int .i64 x.f1, .string x.f2, .slice A x.f3.length c]] w fun e w'' => e = .returned (.int .i64 (szN x)) ∧ Below w.heap.size w w'' := by
  intro n
  induction n with
  | zero =>
    intro x A c w hn
    have := S24.mk.sizeOf_spec x.f0 x.f1 x.f2 x.f3
    exact absurd hn (by cases x; simp)
  | succ n ih =>
    intro x A c w hn hs hC hcap
    have hs2 := szN_eq x
    have hds := dp_le_sz x
    have hnn := ne_le_sz x
    have hf := fun w hC => fold 29 87 enter_Size enter_sum (fun y => (szN y : Int)) (fun k => (szL (x.f3.take k) : Int)) x.f0 x.f1 x.f2 A c x.f3
      (fun y A' c' w' hy hC' hc' => ih y A' c' w' (by have := kid_lt hy; omega) (by have := szL_mem hy; omega) hC' hc')
      (by simp [szL])
      (fun k y w' hk => by have e := szL_take x.f3 k y hk; have e2 := szL_take_le x.f3 (k + 1); simpa [e] using sum (szL (x.f3.take k)) (szN y) w' (by omega) (by omega))
      w hC hcap
    simp only [List.take_length] at hf
    have HF := Aside0.mk hf
    have HC := Aside0.mk hC
    have hq : szL x.f3 ≤ szN x := by rw [szN_eq]; omega
    have hz : szL x.f3 ≤ 1152921504606846976 := by omega
    have HE := Aside0.mk (szN_eq x)
    clear hf ih hC hn hs hs2 hds hnn hq
    generalize x.f0 = a0 at *
    generalize x.f1 = a1 at *
    generalize x.f2 = a2 at *
    generalize x.f3.length = m at *
    generalize szL x.f3 = q at *
    generalize szN x = r at *
    go_enter Tryd.func29, Tryd.ntmps29
    go_wp2_with fail
    refine (HF.out _ (C_keep HC.out ((Below.refl _ _).alloc (Nat.le_refl _) _))).mono ?_
    rintro e w' ⟨rfl, hB⟩
    have HB := Aside0.mk hB
    clear hB
    go_wp2
    go_ret
    exact ⟨iret (by have := HE.out; omega), ((Below.refl _ _).alloc (Nat.le_refl _) _).trans (HB.out.mono (by rw [World.size_alloc]; omega))⟩

set_option maxHeartbeats 2000000 in
theorem depth_n : ∀ (n : Nat) (x : Nd) (A : Option Addr) (c : Nat) (w : World), SizeOf.sizeOf x ≤ n → szN x ≤ 1152921504606846976 → Kd.C kNd w A x.f3.length x.f3 → x.f3.length ≤ c →
    Calls Tryd.prog 31 #[.agg #[.int .u8 x.f0, .int .i64 x.f1, .string x.f2, .slice A x.f3.length c]] w fun e w'' => e = .returned (.int .i64 (dpN x)) ∧ Below w.heap.size w w'' := by
  intro n
  induction n with
  | zero =>
    intro x A c w hn
    have := S24.mk.sizeOf_spec x.f0 x.f1 x.f2 x.f3
    exact absurd hn (by cases x; simp)
  | succ n ih =>
    intro x A c w hn hs hC hcap
    have hs2 := szN_eq x
    have hds := dp_le_sz x
    have hnn := ne_le_sz x
    have hf := fun w hC => fold 31 88 enter_Depth enter_greater (fun y => (dpN y : Int)) (fun k => (dpL (x.f3.take k) : Int)) x.f0 x.f1 x.f2 A c x.f3
      (fun y A' c' w' hy hC' hc' => ih y A' c' w' (by have := kid_lt hy; omega) (by have := szL_mem hy; omega) hC' hc')
      (by simp [dpL])
      (fun k y w' hk => by
        have e := dpL_take x.f3 k y hk
        have e3 : ((max (dpL (x.f3.take k)) (dpN y) : Nat) : Int) = max (dpL (x.f3.take k) : Int) (dpN y) := by omega
        have h := greater (dpL (x.f3.take k)) (dpN y) w'
        rw [← e3, ← e] at h; exact h)
      w hC hcap
    simp only [List.take_length] at hf
    have HF := Aside0.mk hf
    have HC := Aside0.mk hC
    have hq : dpL x.f3 ≤ dpN x := by rw [dpN_eq]; omega
    have hz : dpL x.f3 ≤ 1152921504606846976 := by omega
    have HE := Aside0.mk (dpN_eq x)
    clear hf ih hC hn hs hs2 hds hnn hq
    generalize x.f0 = a0 at *
    generalize x.f1 = a1 at *
    generalize x.f2 = a2 at *
    generalize x.f3.length = m at *
    generalize dpL x.f3 = q at *
    generalize dpN x = r at *
    go_enter Tryd.func31, Tryd.ntmps31
    go_wp2_with fail
    refine (HF.out _ (C_keep HC.out ((Below.refl _ _).alloc (Nat.le_refl _) _))).mono ?_
    rintro e w' ⟨rfl, hB⟩
    have HB := Aside0.mk hB
    clear hB
    go_wp2
    go_ret
    exact ⟨iret (by have := HE.out; omega), ((Below.refl _ _).alloc (Nat.le_refl _) _).trans (HB.out.mono (by rw [World.size_alloc]; omega))⟩

set_option maxHeartbeats 2000000 in
theorem nest_n : ∀ (n : Nat) (x : Nd) (A : Option Addr) (c : Nat) (w : World), SizeOf.sizeOf x ≤ n → szN x ≤ 1152921504606846976 → Kd.C kNd w A x.f3.length x.f3 → x.f3.length ≤ c →
    Calls Tryd.prog 33 #[.agg #[.int .u8 x.f0, .int .i64 x.f1, .string x.f2, .slice A x.f3.length c]] w fun e w'' => e = .returned (.int .i64 (neN x)) ∧ Below w.heap.size w w'' := by
  intro n
  induction n with
  | zero =>
    intro x A c w hn
    have := S24.mk.sizeOf_spec x.f0 x.f1 x.f2 x.f3
    exact absurd hn (by cases x; simp)
  | succ n ih =>
    intro x A c w hn hs hC hcap
    have hs2 := szN_eq x
    have hds := dp_le_sz x
    have hnn := ne_le_sz x
    have hf := fun w hC => fold 33 88 enter_Nest enter_greater (fun y => (neN y : Int)) (fun k => (neL (x.f3.take k) : Int)) x.f0 x.f1 x.f2 A c x.f3
      (fun y A' c' w' hy hC' hc' => ih y A' c' w' (by have := kid_lt hy; omega) (by have := szL_mem hy; omega) hC' hc')
      (by simp [neL])
      (fun k y w' hk => by
        have e := neL_take x.f3 k y hk
        have e3 : ((max (neL (x.f3.take k)) (neN y) : Nat) : Int) = max (neL (x.f3.take k) : Int) (neN y) := by omega
        have h := greater (neL (x.f3.take k)) (neN y) w'
        rw [← e3, ← e] at h; exact h)
      w hC hcap
    simp only [List.take_length] at hf
    have HF := Aside0.mk hf
    have HC := Aside0.mk hC
    have hq : neL x.f3 ≤ neN x := by rw [neN_eq]; omega
    have hz : neL x.f3 ≤ 1152921504606846976 := by omega
    have HE := Aside0.mk (neN_eq x)
    clear hf ih hC hn hs hs2 hds hnn hq
    generalize x.f0 = a0 at *
    generalize x.f1 = a1 at *
    generalize x.f2 = a2 at *
    generalize x.f3.length = m at *
    generalize neL x.f3 = q at *
    generalize neN x = r at *
    by_cases k1 : a0 = 42
    · subst k1
      have hw : wrap64 ((q : Int) + 1) = ((1 + q : Nat) : Int) := by rw [w64] <;> omega
      have HE := Aside0.mk (show r = 1 + q from HE.out)
      go_enter Tryd.func33, Tryd.ntmps33
      go_wp2_with fail
      have BX : ∀ j, _ = _ := box_new w #[.int .u8 42, .int .i64 a1, .string a2, .slice A m c] 24
      refine (HF.out _ (C_keep HC.out ((Below.refl _ _).alloc (Nat.le_refl _) _))).mono ?_
      rintro e w' ⟨rfl, hB⟩
      replace BX := box_keep (B := w.heap.size) hB (by rw [World.size_alloc]; omega) BX
      have HB := Aside0.mk hB
      clear hB
      go_wp2
      go_ret
      exact ⟨iret (by have := HE.out; omega), ((Below.refl _ _).alloc (Nat.le_refl _) _).trans (HB.out.mono (by rw [World.size_alloc]; omega))⟩
    · by_cases k2 : a0 = 43
      · subst k2
        have hw : wrap64 ((q : Int) + 1) = ((1 + q : Nat) : Int) := by rw [w64] <;> omega
        have HE := Aside0.mk (show r = 1 + q from HE.out)
        go_enter Tryd.func33, Tryd.ntmps33
        go_wp2_with fail
        have BX : ∀ j, _ = _ := box_new w #[.int .u8 43, .int .i64 a1, .string a2, .slice A m c] 24
        refine (HF.out _ (C_keep HC.out ((Below.refl _ _).alloc (Nat.le_refl _) _))).mono ?_
        rintro e w' ⟨rfl, hB⟩
        replace BX := box_keep (B := w.heap.size) hB (by rw [World.size_alloc]; omega) BX
        have HB := Aside0.mk hB
        clear hB
        go_wp2
        go_ret
        exact ⟨iret (by have := HE.out; omega), ((Below.refl _ _).alloc (Nat.le_refl _) _).trans (HB.out.mono (by rw [World.size_alloc]; omega))⟩
      · have hb1 : (a0 == 42) = false := beq_eq_false_iff_ne.mpr k1
        have hb2 : (a0 == 43) = false := beq_eq_false_iff_ne.mpr k2
        have HE := Aside0.mk (show r = q by rw [HE.out, if_neg (by simp [loopB, k1, k2])]; omega)
        go_enter Tryd.func33, Tryd.ntmps33
        go_wp2_with fail
        have BX : ∀ j, _ = _ := box_new w #[.int .u8 a0, .int .i64 a1, .string a2, .slice A m c] 24
        refine (HF.out _ (C_keep HC.out ((Below.refl _ _).alloc (Nat.le_refl _) _))).mono ?_
        rintro e w' ⟨rfl, hB⟩
        replace BX := box_keep (B := w.heap.size) hB (by rw [World.size_alloc]; omega) BX
        have HB := Aside0.mk hB
        clear hB
        go_wp2
        go_ret
        exact ⟨iret (by have := HE.out; omega), ((Below.refl _ _).alloc (Nat.le_refl _) _).trans (HB.out.mono (by rw [World.size_alloc]; omega))⟩
end Go.Proofs.YtmdbbfoejmakdaaDoor.Ha

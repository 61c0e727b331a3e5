/-
  The contracts of slices.ContainsFunc over tasks, declarations and names, and of ast.arrays, ast.valid, ast.Valid. By this session, out of its own program (wip/gen).
-/
import Derived.Test.YtmdbbfoejmakdaaDoorHvalp
import Derived.Test.YtmdbbfoejmakdaaDoorHfun
namespace Go.Proofs.YtmdbbfoejmakdaaDoor.Ha
open Go.RowKit Go.Proofs.YtmdbbfoejmakdaaDoorW.PrintWords Go.Proofs.YtmdbbfoejmakdaaDoorW.PrintLast Go.Proofs.YtmdbbfoejmakdaaDoorW.PrintMore Go.Proofs.YtmdbbfoejmakdaaDoor.P
set_option linter.unusedVariables false
set_option linter.unusedSimpArgs false
open Hl
abbrev tskV (t : S65) (A2 : Option Addr) (c2 : Nat) (A3 : Option Addr) (c3 : Nat) (A7 : Option Addr) (c7 : Nat) : Value := .agg #[.string t.f0, .int .i64 t.f1, .slice A2 t.f2.length c2, .slice A3 t.f3.length c3, .int .u8 t.f4.f0, .int .i64 t.f4.f1, .string t.f4.f2, .slice A7 t.f4.f3.length c7]
abbrev arrV (a : S71) : Value := .agg #[.string a.f0, .int .i64 a.f1]
/-- A task's rows in memory. -/
structure AtT (w : World) (t : S65) (A2 : Option Addr) (c2 : Nat) (A3 : Option Addr) (c3 : Nat) (A7 : Option Addr) (c7 : Nat) : Prop where
  l2 : t.f2.length ≤ c2
  C2 : Kd.C Kd.string w A2 t.f2.length t.f2
  l3 : t.f3.length ≤ c3
  C3 : Kd.C k71 w A3 t.f3.length t.f3
  body : At w t.f4 A7 c7
theorem AtT.below {w w' : World} {t : S65} {A2 : Option Addr} {c2 : Nat} {A3 : Option Addr} {c3 : Nat} {A7 : Option Addr} {c7 : Nat} (h : AtT w t A2 c2 A3 c3 A7 c7) (hb : Below w.heap.size w w') : AtT w' t A2 c2 A3 c3 A7 c7 :=
  ⟨h.l2, Kd.C_below h.C2 hb, h.l3, Kd.C_below h.C3 hb, h.body.below hb⟩
/-- The first place where a test holds; -1: none. -/
def idxQ {α : Type} (p : α → Bool) : List α → Int → Int
  | [], _ => -1
  | x :: r, i => if p x then i else idxQ p r (i + 1)
theorem idxQ_drop {α : Type} (p : α → Bool) (l : List α) (k : Nat) (x : α) (h : l[k]? = some x) : idxQ p (l.drop k) k = if p x then (k : Int) else idxQ p (l.drop (k + 1)) ((k : Int) + 1) := by
  obtain ⟨hk, rfl⟩ := List.getElem?_eq_some_iff.1 h
  rw [List.drop_eq_getElem_cons hk]; rfl
theorem idxQ_ge {α : Type} (p : α → Bool) (l : List α) : ∀ i : Int, 0 ≤ i → decide (idxQ p l i ≥ 0) = l.any p := by
  induction l with
  | nil => intro i hi; simp [idxQ]
  | cons y r ih =>
    intro i hi
    unfold idxQ
    by_cases h : p y = true
    · simp [h, hi]
    · rw [if_neg h, ih (i + 1) (by omega)]; simp [h]
set_option maxHeartbeats 2000000 in
theorem indexT (g : Nat) (b c : Array Value) (eg : ∀ args w, (callFunc g args).run Tryd.prog w = .ok (.enter g args) w) (p : S65 → Bool) (A : Option Addr) (cap : Nat) (ks : List S65) (w : World)
    (hg : ∀ (x : S65) (A2 : Option Addr) (c2 : Nat) (A3 : Option Addr) (c3 : Nat) (A7 : Option Addr) (c7 : Nat) (w' : World), x ∈ ks → Below w.heap.size w w' → AtT w' x A2 c2 A3 c3 A7 c7 → Calls Tryd.prog g (b ++ #[tskV x A2 c2 A3 c3 A7 c7] ++ c) w' fun e w'' => e = .returned (.bool (p x)) ∧ Below w'.heap.size w' w'')
    (hC : Kd.C k65 w A ks.length ks) :
    Calls Tryd.prog 124 #[.slice A ks.length cap, .func (.func g) b c] w fun e w' => e = .returned (.int .i64 (idxQ p ks 0)) ∧ Below w.heap.size w w' := by
  have hlen : ks.length ≤ 9223372036854775807 := hC.2.1
  have HG := Aside0.mk hg
  have HC := Aside0.mk hC
  clear hg hC
  go_enter Tryd.func124, Tryd.ntmps124
  go_wp2
  go_loopw [5, 8] (fun v i wr => ∃ k : Nat, k ≤ ks.length ∧ i = .int .i64 k ∧ Aside0 (Below w.heap.size w wr ∧ idxQ p ks 0 = idxQ p (ks.drop k) k)) (fun _ i _ => ks.length - (intOf i).toNat)
  case atStart => exact ⟨0, Nat.zero_le _, rfl, ⟨⟨Below.refl _ _, rfl⟩⟩⟩
  case round =>
    obtain ⟨k, hk, rfl, HB⟩ := hrel
    by_cases hlt : k < ks.length
    · have HC1 := Aside0.mk (Kd.C_below HC.out HB.out.1)
      obtain ⟨ad, A2, c2, A3, c3, A7, c7, rfl, g0, g1, g2, g3, g4, g5, g6, g7, l2, C2, l3, C3, l7, C7⟩ := at_T65 HC1.out (k : Int) (by omega) (by omega)
      simp only [Int.toNat_natCast] at g0 g1 g2 g3 g4 g5 g6 g7
      have hx : ks[k]? = some (rd_T65 ks k) := by simp [rd_T65, List.getD_eq_getElem?_getD, List.getElem?_eq_getElem hlt]
      have hm : rd_T65 ks k ∈ ks := List.mem_of_getElem? hx
      have HAT : Aside0 (AtT _ (rd_T65 ks k) A2 c2 A3 c3 A7 c7) := ⟨⟨l2, C2, l3, C3, C7, l7⟩⟩
      clear l2 C2 l3 C3 l7 C7
      generalize rd_T65 ks k = x at *
      have HD := Aside0.mk (idxQ_drop p ks k x hx)
      have HM := Aside0.mk hm
      have HG1 := Aside0.mk (HG.out x A2 c2 A3 c3 A7 c7 _ HM.out HB.out.1 HAT.out)
      clear hx hm HC1
      generalize p x = px at *
      cases px
      · go_wp2
        refine HG1.out.mono ?_
        rintro e w' ⟨rfl, hB1⟩
        have HB1 := Aside0.mk hB1
        clear hB1
        go_wp2
        go_roundw
        case rel => exact ⟨k + 1, by omega, by go_num, ⟨⟨HB.out.1.trans (HB1.out.mono HB.out.1.size), by rw [HB.out.2, HD.out]; simp⟩⟩⟩
        case measure => simp [intOf]; omega
      · go_wp2
        refine HG1.out.mono ?_
        rintro e w' ⟨rfl, hB1⟩
        have HB1 := Aside0.mk hB1
        clear hB1
        go_wp2
        go_ret
        exact ⟨Hl.iret (by rw [HB.out.2, HD.out]; simp), HB.out.1.trans (HB1.out.mono HB.out.1.size)⟩
    · go_wp2
      go_ret
      exact ⟨Hl.iret (by rw [HB.out.2, List.drop_of_length_le (by omega)]; simp [idxQ]), HB.out.1⟩
set_option maxHeartbeats 2000000 in
theorem containsT (g : Nat) (b c : Array Value) (eg : ∀ args w, (callFunc g args).run Tryd.prog w = .ok (.enter g args) w) (p : S65 → Bool) (A : Option Addr) (cap : Nat) (ks : List S65) (w : World)
    (hg : ∀ (x : S65) (A2 : Option Addr) (c2 : Nat) (A3 : Option Addr) (c3 : Nat) (A7 : Option Addr) (c7 : Nat) (w' : World), x ∈ ks → Below w.heap.size w w' → AtT w' x A2 c2 A3 c3 A7 c7 → Calls Tryd.prog g (b ++ #[tskV x A2 c2 A3 c3 A7 c7] ++ c) w' fun e w'' => e = .returned (.bool (p x)) ∧ Below w'.heap.size w' w'')
    (hC : Kd.C k65 w A ks.length ks) :
    Calls Tryd.prog 94 #[.slice A ks.length cap, .func (.func g) b c] w fun e w' => e = .returned (.bool (ks.any p)) ∧ Below w.heap.size w w' := by
  have H := Aside0.mk (indexT g b c eg p A cap ks w hg hC)
  have HF := Aside0.mk (idxQ_ge p ks 0 (by omega))
  clear hg hC eg
  go_enter Tryd.func94, Tryd.ntmps94
  go_wp2_with fail
  refine H.out.mono ?_
  rintro e w' ⟨rfl, hB⟩
  have HB := Aside0.mk hB
  clear hB
  go_wp2
  go_ret
  exact ⟨Hl.bret (by rw [← HF.out]), HB.out⟩
set_option maxHeartbeats 2000000 in
theorem indexA (g : Nat) (b c : Array Value) (eg : ∀ args w, (callFunc g args).run Tryd.prog w = .ok (.enter g args) w) (p : S71 → Bool) (A : Option Addr) (cap : Nat) (ks : List S71) (w : World)
    (hg : ∀ (x : S71) (w' : World), x ∈ ks → Below w.heap.size w w' → True → Calls Tryd.prog g (b ++ #[arrV x] ++ c) w' fun e w'' => e = .returned (.bool (p x)) ∧ Below w'.heap.size w' w'')
    (hC : Kd.C k71 w A ks.length ks) :
    Calls Tryd.prog 109 #[.slice A ks.length cap, .func (.func g) b c] w fun e w' => e = .returned (.int .i64 (idxQ p ks 0)) ∧ Below w.heap.size w w' := by
  have hlen : ks.length ≤ 9223372036854775807 := hC.2.1
  have HG := Aside0.mk hg
  have HC := Aside0.mk hC
  clear hg hC
  go_enter Tryd.func109, Tryd.ntmps109
  go_wp2
  go_loopw [5, 8] (fun v i wr => ∃ k : Nat, k ≤ ks.length ∧ i = .int .i64 k ∧ Aside0 (Below w.heap.size w wr ∧ idxQ p ks 0 = idxQ p (ks.drop k) k)) (fun _ i _ => ks.length - (intOf i).toNat)
  case atStart => exact ⟨0, Nat.zero_le _, rfl, ⟨⟨Below.refl _ _, rfl⟩⟩⟩
  case round =>
    obtain ⟨k, hk, rfl, HB⟩ := hrel
    by_cases hlt : k < ks.length
    · have HC1 := Aside0.mk (Kd.C_below HC.out HB.out.1)
      obtain ⟨ad, rfl, g0, g1⟩ := at_T71 HC1.out (k : Int) (by omega) (by omega)
      simp only [Int.toNat_natCast] at g0 g1
      have hx : ks[k]? = some (rd_T71 ks k) := by simp [rd_T71, List.getD_eq_getElem?_getD, List.getElem?_eq_getElem hlt]
      have hm : rd_T71 ks k ∈ ks := List.mem_of_getElem? hx
      generalize rd_T71 ks k = x at *
      have HD := Aside0.mk (idxQ_drop p ks k x hx)
      have HM := Aside0.mk hm
      have HG1 := Aside0.mk (HG.out x _ HM.out HB.out.1 trivial)
      clear hx hm HC1
      generalize p x = px at *
      cases px
      · go_wp2
        refine HG1.out.mono ?_
        rintro e w' ⟨rfl, hB1⟩
        have HB1 := Aside0.mk hB1
        clear hB1
        go_wp2
        go_roundw
        case rel => exact ⟨k + 1, by omega, by go_num, ⟨⟨HB.out.1.trans (HB1.out.mono HB.out.1.size), by rw [HB.out.2, HD.out]; simp⟩⟩⟩
        case measure => simp [intOf]; omega
      · go_wp2
        refine HG1.out.mono ?_
        rintro e w' ⟨rfl, hB1⟩
        have HB1 := Aside0.mk hB1
        clear hB1
        go_wp2
        go_ret
        exact ⟨Hl.iret (by rw [HB.out.2, HD.out]; simp), HB.out.1.trans (HB1.out.mono HB.out.1.size)⟩
    · go_wp2
      go_ret
      exact ⟨Hl.iret (by rw [HB.out.2, List.drop_of_length_le (by omega)]; simp [idxQ]), HB.out.1⟩
set_option maxHeartbeats 2000000 in
theorem containsA (g : Nat) (b c : Array Value) (eg : ∀ args w, (callFunc g args).run Tryd.prog w = .ok (.enter g args) w) (p : S71 → Bool) (A : Option Addr) (cap : Nat) (ks : List S71) (w : World)
    (hg : ∀ (x : S71) (w' : World), x ∈ ks → Below w.heap.size w w' → True → Calls Tryd.prog g (b ++ #[arrV x] ++ c) w' fun e w'' => e = .returned (.bool (p x)) ∧ Below w'.heap.size w' w'')
    (hC : Kd.C k71 w A ks.length ks) :
    Calls Tryd.prog 66 #[.slice A ks.length cap, .func (.func g) b c] w fun e w' => e = .returned (.bool (ks.any p)) ∧ Below w.heap.size w w' := by
  have H := Aside0.mk (indexA g b c eg p A cap ks w hg hC)
  have HF := Aside0.mk (idxQ_ge p ks 0 (by omega))
  clear hg hC eg
  go_enter Tryd.func66, Tryd.ntmps66
  go_wp2_with fail
  refine H.out.mono ?_
  rintro e w' ⟨rfl, hB⟩
  have HB := Aside0.mk hB
  clear hB
  go_wp2
  go_ret
  exact ⟨Hl.bret (by rw [← HF.out]), HB.out⟩
set_option maxHeartbeats 2000000 in
theorem indexS (g : Nat) (b c : Array Value) (eg : ∀ args w, (callFunc g args).run Tryd.prog w = .ok (.enter g args) w) (p : ByteArray → Bool) (A : Option Addr) (cap : Nat) (ks : List ByteArray) (w : World)
    (hg : ∀ (x : ByteArray) (w' : World), x ∈ ks → Below w.heap.size w w' → True → Calls Tryd.prog g (b ++ #[.string x] ++ c) w' fun e w'' => e = .returned (.bool (p x)) ∧ Below w'.heap.size w' w'')
    (hC : Kd.C Kd.string w A ks.length ks) :
    Calls Tryd.prog 141 #[.slice A ks.length cap, .func (.func g) b c] w fun e w' => e = .returned (.int .i64 (idxQ p ks 0)) ∧ Below w.heap.size w w' := by
  have hlen : ks.length ≤ 9223372036854775807 := hC.2.1
  have HG := Aside0.mk hg
  have HC := Aside0.mk hC
  clear hg hC
  go_enter Tryd.func141, Tryd.ntmps141
  go_wp2
  go_loopw [5, 8] (fun v i wr => ∃ k : Nat, k ≤ ks.length ∧ i = .int .i64 k ∧ Aside0 (Below w.heap.size w wr ∧ idxQ p ks 0 = idxQ p (ks.drop k) k)) (fun _ i _ => ks.length - (intOf i).toNat)
  case atStart => exact ⟨0, Nat.zero_le _, rfl, ⟨⟨Below.refl _ _, rfl⟩⟩⟩
  case round =>
    obtain ⟨k, hk, rfl, HB⟩ := hrel
    by_cases hlt : k < ks.length
    · have HC1 := Aside0.mk (Kd.C_below HC.out HB.out.1)
      obtain ⟨ad, rfl, g0⟩ := Kd.at_string HC1.out (k : Int) (by omega) (by omega)
      simp only [Int.toNat_natCast] at g0
      have hx : ks[k]? = some (rdOf ByteArray.empty ks k) := by simp [rdOf, List.getD_eq_getElem?_getD, List.getElem?_eq_getElem hlt]
      have hm : rdOf ByteArray.empty ks k ∈ ks := List.mem_of_getElem? hx
      generalize rdOf ByteArray.empty ks k = x at *
      have HD := Aside0.mk (idxQ_drop p ks k x hx)
      have HM := Aside0.mk hm
      have HG1 := Aside0.mk (HG.out x _ HM.out HB.out.1 trivial)
      clear hx hm HC1
      generalize p x = px at *
      cases px
      · go_wp2
        refine HG1.out.mono ?_
        rintro e w' ⟨rfl, hB1⟩
        have HB1 := Aside0.mk hB1
        clear hB1
        go_wp2
        go_roundw
        case rel => exact ⟨k + 1, by omega, by go_num, ⟨⟨HB.out.1.trans (HB1.out.mono HB.out.1.size), by rw [HB.out.2, HD.out]; simp⟩⟩⟩
        case measure => simp [intOf]; omega
      · go_wp2
        refine HG1.out.mono ?_
        rintro e w' ⟨rfl, hB1⟩
        have HB1 := Aside0.mk hB1
        clear hB1
        go_wp2
        go_ret
        exact ⟨Hl.iret (by rw [HB.out.2, HD.out]; simp), HB.out.1.trans (HB1.out.mono HB.out.1.size)⟩
    · go_wp2
      go_ret
      exact ⟨Hl.iret (by rw [HB.out.2, List.drop_of_length_le (by omega)]; simp [idxQ]), HB.out.1⟩
set_option maxHeartbeats 2000000 in
theorem containsS (g : Nat) (b c : Array Value) (eg : ∀ args w, (callFunc g args).run Tryd.prog w = .ok (.enter g args) w) (p : ByteArray → Bool) (A : Option Addr) (cap : Nat) (ks : List ByteArray) (w : World)
    (hg : ∀ (x : ByteArray) (w' : World), x ∈ ks → Below w.heap.size w w' → True → Calls Tryd.prog g (b ++ #[.string x] ++ c) w' fun e w'' => e = .returned (.bool (p x)) ∧ Below w'.heap.size w' w'')
    (hC : Kd.C Kd.string w A ks.length ks) :
    Calls Tryd.prog 125 #[.slice A ks.length cap, .func (.func g) b c] w fun e w' => e = .returned (.bool (ks.any p)) ∧ Below w.heap.size w w' := by
  have H := Aside0.mk (indexS g b c eg p A cap ks w hg hC)
  have HF := Aside0.mk (idxQ_ge p ks 0 (by omega))
  clear hg hC eg
  go_enter Tryd.func125, Tryd.ntmps125
  go_wp2_with fail
  refine H.out.mono ?_
  rintro e w' ⟨rfl, hB⟩
  have HB := Aside0.mk hB
  clear hB
  go_wp2
  go_ret
  exact ⟨Hl.bret (by rw [← HF.out]), HB.out⟩
theorem enter_arr1 (args : Array Value) (w : World) : (callFunc 123 args).run Tryd.prog w = .ok (.enter 123 args) w := by go_simp
theorem enter_val1 (args : Array Value) (w : World) : (callFunc 126 args).run Tryd.prog w = .ok (.enter 126 args) w := by go_simp
theorem enter_Val1 (args : Array Value) (w : World) : (callFunc 95 args).run Tryd.prog w = .ok (.enter 95 args) w := by go_simp
set_option maxHeartbeats 2000000 in
theorem arr1 (a : S71) (w : World) (hT : TabOk w) : Calls Tryd.prog 123 #[arrV a] w fun e w' => e = .returned (.bool (!arrB a)) ∧ Below w.heap.size w w' := by
  have HN := Aside0.mk (name a.f0 _ (hT.below ((Below.refl _ w).alloc (Nat.le_refl _) (.cells #[.string a.f0, .int .i64 a.f1] 71))))
  have hc0 := box_new w #[.string a.f0, .int .i64 a.f1] 71
  clear hT
  unfold arrB
  go_enter Tryd.func123, Tryd.ntmps123
  go_wp2_with fail
  refine HN.out.mono ?_
  rintro e w1 ⟨rfl, hB1⟩
  have hc1 := box_keep hB1 (by simp) hc0
  have HB1 : Aside0 (Below w.heap.size w w1) := ⟨((Below.refl _ w).alloc (Nat.le_refl _) _).trans (hB1.mono (by simp))⟩
  clear hB1 hc0
  cases hn : nameB a.f0
  · go_wp2
    go_ret
    exact ⟨Hl.bret (by simp [hn]), HB1.out⟩
  · by_cases p2 : a.f1 < 1
    · go_wp2
      go_ret
      exact ⟨Hl.bret (by simp [hn, p2]), HB1.out⟩
    · by_cases p3 : 32 < a.f1
      · go_wp2
        go_ret
        exact ⟨Hl.bret (by simp [hn, p3]), HB1.out⟩
      · go_wp2
        go_ret
        exact ⟨Hl.bret (by simp [hn, p2, p3]), HB1.out⟩
theorem any_not {α : Type} (p : α → Bool) (l : List α) : l.any (fun x => !p x) = !l.all p := by
  induction l with
  | nil => rfl
  | cons x r ih => rw [List.any_cons, List.all_cons, ih, Bool.not_and]
set_option maxHeartbeats 2000000 in
theorem arraysN (l : List S71) (A : Option Addr) (c : Nat) (w : World) (hT : TabOk w) (hC : Kd.C k71 w A l.length l) : Calls Tryd.prog 93 #[.slice A l.length c, .int .i64 4] w fun e w' => e = .returned (.bool (arrsB l)) ∧ Below w.heap.size w w' := by
  have HC := Aside0.mk (containsA 123 #[] #[] enter_arr1 (fun a => !arrB a) A c l w (fun x w' _ hb _ => arr1 x w' (hT.below hb)) hC)
  have hlen : l.length ≤ 9223372036854775807 := hC.2.1
  clear hT hC
  rw [any_not] at HC
  unfold arrsB
  generalize l.all arrB = r at *
  by_cases h : l.length ≤ 4
  · have h1 : decide ((l.length : Int) ≤ 4) = true := by simp; omega
    go_enter Tryd.func93, Tryd.ntmps93
    go_wp2_with fail
    refine HC.out.mono ?_
    rintro e w1 ⟨rfl, hB1⟩
    have HB1 := Aside0.mk hB1
    clear hB1
    go_wp2
    go_ret
    exact ⟨Hl.bret (by simp [h]), HB1.out⟩
  · have h1 : decide ((l.length : Int) ≤ 4) = false := by simp; omega
    go_enter Tryd.func93, Tryd.ntmps93
    go_wp2
    go_ret
    exact ⟨Hl.bret (by simp [h]), Below.refl _ _⟩
set_option maxHeartbeats 2000000 in
theorem val1 (s : ByteArray) (w : World) (hT : TabOk w) : Calls Tryd.prog 126 #[.string s] w fun e w' => e = .returned (.bool (!nameB s)) ∧ Below w.heap.size w w' := by
  have HN := Aside0.mk (name s w hT)
  clear hT
  go_enter Tryd.func126, Tryd.ntmps126
  go_wp2_with fail
  refine HN.out.mono ?_
  rintro e w1 ⟨rfl, hB1⟩
  have HB1 := Aside0.mk hB1
  clear hB1
  go_wp2
  go_ret
  exact ⟨rfl, HB1.out⟩
end Go.Proofs.YtmdbbfoejmakdaaDoor.Ha

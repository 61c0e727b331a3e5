/-
  The contracts of slices.IndexFunc, ContainsFunc and EqualFunc over nodes: they answer what the function that they are handed answers. By this session, out of its own program (wip/gen).
-/
import Derived.Test.YtmdbbfoejmakdaaDoorHast
namespace Go.Proofs.YtmdbbfoejmakdaaDoor.Ha
open Go.RowKit Go.Proofs.YtmdbbfoejmakdaaDoorW.PrintWords Go.Proofs.YtmdbbfoejmakdaaDoorW.PrintLast Go.Proofs.YtmdbbfoejmakdaaDoorW.PrintMore Go.Proofs.YtmdbbfoejmakdaaDoor.P
set_option linter.unusedVariables false
set_option linter.unusedSimpArgs false

/-- The arguments that bear a node. -/
abbrev nodeV (x : Nd) (A : Option Addr) (c : Nat) : Value := .agg #[.int .u8 x.f0, .int .i64 x.f1, .string x.f2, .slice A x.f3.length c]
/-- Where a tree's children lie. -/
def At (w : World) (x : Nd) (A : Option Addr) (c : Nat) : Prop := Kd.C kNd w A x.f3.length x.f3 ∧ x.f3.length ≤ c
theorem At.below {w w' : World} {x : Nd} {A : Option Addr} {c : Nat} (h : At w x A c) (hb : Below w.heap.size w w') : At w' x A c := ⟨C_keep h.1 hb, h.2⟩

/-- The first place where a test holds; -1: none. -/
def idxF (p : Nd → Bool) : List Nd → Int → Int
  | [], _ => -1
  | x :: r, i => if p x then i else idxF p r (i + 1)
theorem idxF_drop (p : Nd → Bool) (l : List Nd) (k : Nat) (x : Nd) (h : l[k]? = some x) : idxF p (l.drop k) k = if p x then (k : Int) else idxF p (l.drop (k + 1)) ((k : Int) + 1) := by
  obtain ⟨hk, rfl⟩ := List.getElem?_eq_some_iff.1 h
  rw [List.drop_eq_getElem_cons hk]; rfl
theorem idxF_ge (p : Nd → Bool) (l : List Nd) : ∀ i : Int, 0 ≤ i → decide (idxF p l i ≥ 0) = l.any p := by
  induction l with
  | nil => intro i hi; simp [idxF]
  | cons y r ih =>
    intro i hi
    unfold idxF
    by_cases h : p y = true
    · simp [h, hi]
    · rw [if_neg h, ih (i + 1) (by omega)]; simp [h]
set_option maxHeartbeats 2000000 in
theorem indexF (g : Nat) (b c : Array Value) (eg : ∀ args w, (callFunc g args).run Tryd.prog w = .ok (.enter g args) w) (p : Nd → Bool) (A : Option Addr) (cap : Nat) (ks : List Nd) (w : World)
    (hg : ∀ (x : Nd) (A' : Option Addr) (c' : Nat) (w' : World), x ∈ ks → Below w.heap.size w w' → At w' x A' c' → Calls Tryd.prog g (b ++ #[nodeV x A' c'] ++ c) w' fun e w'' => e = .returned (.bool (p x)) ∧ Below w'.heap.size w' w'')
    (hC : Kd.C kNd w A ks.length ks) :
    Calls Tryd.prog 137 #[.slice A ks.length cap, .func (.func g) b c] w fun e w' => e = .returned (.int .i64 (idxF p ks 0)) ∧ Below w.heap.size w w' := by
  have hlen : ks.length ≤ 9223372036854775807 := hC.2.1
  have HG := Aside0.mk hg
  have HC := Aside0.mk hC
  clear hg hC
  go_enter Tryd.func137, Tryd.ntmps137
  go_wp2
  go_loopw [5, 8] (fun v i wr => ∃ k : Nat, k ≤ ks.length ∧ i = .int .i64 k ∧ Aside0 (Below w.heap.size w wr ∧ idxF p ks 0 = idxF p (ks.drop k) k)) (fun _ i _ => ks.length - (intOf i).toNat)
  case atStart => exact ⟨0, Nat.zero_le _, rfl, ⟨⟨Below.refl _ _, rfl⟩⟩⟩
  case round =>
    obtain ⟨k, hk, rfl, HB⟩ := hrel
    by_cases hlt : k < ks.length
    · have HC1 := Aside0.mk (C_keep HC.out HB.out.1)
      obtain ⟨ad, A3, c3, rfl, g0, g1, g2, g3, l3, hC3⟩ := at_T24 HC1.out (k : Int) (by omega) (by omega)
      simp only [Int.toNat_natCast] at g0 g1 g2 g3
      have hx : ks[k]? = some (rd_T24 ks k) := by simp [rd_T24, List.getD_eq_getElem?_getD, List.getElem?_eq_getElem hlt]
      have hm : rd_T24 ks k ∈ ks := List.mem_of_getElem? hx
      generalize rd_T24 ks k = x at *
      have HD := Aside0.mk (idxF_drop p ks k x hx)
      have HM := Aside0.mk hm
      have HC3 : Aside0 (At _ x A3 c3) := ⟨⟨hC3, l3⟩⟩
      clear hx hm hC3 HC1 l3
      have HG1 := Aside0.mk (HG.out x A3 c3 _ HM.out HB.out.1 HC3.out)
      generalize p x = px at *
      cases px
      · go_wp2
        refine HG1.out.mono ?_
        rintro e w' ⟨rfl, hB1⟩
        have HB1 := Aside0.mk hB1
        clear hB1
        go_wp2
        go_roundw
        case rel => exact ⟨k + 1, by omega, by go_num, ⟨⟨HB.out.1.trans (HB1.out.mono HB.out.1.size), by rw [HB.out.2, HD.out]; simp⟩⟩⟩
        case measure => simp [intOf]; omega
      · go_wp2
        refine HG1.out.mono ?_
        rintro e w' ⟨rfl, hB1⟩
        have HB1 := Aside0.mk hB1
        clear hB1
        go_wp2
        go_ret
        exact ⟨iret (by rw [HB.out.2, HD.out]; simp), HB.out.1.trans (HB1.out.mono HB.out.1.size)⟩
    · go_wp2
      go_ret
      exact ⟨iret (by rw [HB.out.2, List.drop_of_length_le (by omega)]; simp [idxF]), HB.out.1⟩
set_option maxHeartbeats 2000000 in
theorem containsF (g : Nat) (b c : Array Value) (eg : ∀ args w, (callFunc g args).run Tryd.prog w = .ok (.enter g args) w) (p : Nd → Bool) (A : Option Addr) (cap : Nat) (ks : List Nd) (w : World)
    (hg : ∀ (x : Nd) (A' : Option Addr) (c' : Nat) (w' : World), x ∈ ks → Below w.heap.size w w' → At w' x A' c' → Calls Tryd.prog g (b ++ #[nodeV x A' c'] ++ c) w' fun e w'' => e = .returned (.bool (p x)) ∧ Below w'.heap.size w' w'')
    (hC : Kd.C kNd w A ks.length ks) :
    Calls Tryd.prog 115 #[.slice A ks.length cap, .func (.func g) b c] w fun e w' => e = .returned (.bool (ks.any p)) ∧ Below w.heap.size w w' := by
  have H := Aside0.mk (indexF g b c eg p A cap ks w hg hC)
  have HF := Aside0.mk (idxF_ge p ks 0 (by omega))
  clear hg hC eg
  go_enter Tryd.func115, Tryd.ntmps115
  go_wp2_with fail
  refine H.out.mono ?_
  rintro e w' ⟨rfl, hB⟩
  have HB := Aside0.mk hB
  clear hB
  go_wp2
  go_ret
  exact ⟨bret (by rw [← HF.out]), HB.out⟩

/-- Two lists agree by a test, place by place. -/
def zipAll {T : Type} (q : Nd → T → Bool) : List Nd → List T → Bool
  | [], [] => true
  | x :: r, y :: s => q x y && zipAll q r s
  | _, _ => false
theorem zipAll_drop {T : Type} (q : Nd → T → Bool) (l : List Nd) (m : List T) (k : Nat) (x : Nd) (y : T) (h : l[k]? = some x) (g : m[k]? = some y) : zipAll q (l.drop k) (m.drop k) = (q x y && zipAll q (l.drop (k + 1)) (m.drop (k + 1))) := by
  obtain ⟨hk, rfl⟩ := List.getElem?_eq_some_iff.1 h
  obtain ⟨hk2, rfl⟩ := List.getElem?_eq_some_iff.1 g
  rw [List.drop_eq_getElem_cons hk, List.drop_eq_getElem_cons hk2]; rfl
theorem zipAll_ne {T : Type} (q : Nd → T → Bool) (l : List Nd) (m : List T) (h : l.length ≠ m.length) : zipAll q l m = false := by
  induction l generalizing m with
  | nil => cases m with
    | nil => simp at h
    | cons _ _ => rfl
  | cons x r ih => cases m with
    | nil => rfl
    | cons y t => rw [zipAll, ih t (by simpa using h)]; simp
set_option maxHeartbeats 2000000 in
theorem equalN (g : Nat) (eg : ∀ args w, (callFunc g args).run Tryd.prog w = .ok (.enter g args) w) (q : Nd → Nd → Bool) (A : Option Addr) (cap : Nat) (A2 : Option Addr) (cap2 : Nat) (ks ms : List Nd) (w : World)
    (hg : ∀ (x y : Nd) (A' : Option Addr) (c' : Nat) (A'' : Option Addr) (c'' : Nat) (w' : World), x ∈ ks → y ∈ ms → Below w.heap.size w w' → At w' x A' c' → At w' y A'' c'' → Calls Tryd.prog g #[nodeV x A' c', nodeV y A'' c''] w' fun e w'' => e = .returned (.bool (q x y)) ∧ Below w'.heap.size w' w'')
    (hC : Kd.C kNd w A ks.length ks) (hC2 : Kd.C kNd w A2 ms.length ms) :
    Calls Tryd.prog 91 #[.slice A ks.length cap, .slice A2 ms.length cap2, .func (.func g) #[] #[]] w fun e w' => e = .returned (.bool (zipAll q ks ms)) ∧ Below w.heap.size w w' := by
  have hlen : ks.length ≤ 9223372036854775807 := hC.2.1
  have HG := Aside0.mk hg
  have HC := Aside0.mk hC
  clear hg hC
  by_cases hl : ks.length = ms.length
  · rw [← hl] at hC2
    rw [← hl]
    have HC2 := Aside0.mk hC2
    have HL := Aside0.mk hl
    clear hC2 hl
    go_enter Tryd.func91, Tryd.ntmps91
    go_wp2
    go_loopw [7, 8, 9, 17] (fun _ _ _ i wr => ∃ k : Nat, k ≤ ks.length ∧ i = .int .i64 k ∧ Aside0 (Below w.heap.size w wr ∧ zipAll q ks ms = zipAll q (ks.drop k) (ms.drop k))) (fun _ _ _ i _ => ks.length - (intOf i).toNat)
    case atStart => exact ⟨0, Nat.zero_le _, rfl, ⟨⟨Below.refl _ _, rfl⟩⟩⟩
    case round =>
      obtain ⟨k, hk, rfl, HB⟩ := hrel
      by_cases hlt : k < ks.length
      · have hlt2 : k < ms.length := by have := HL.out; omega
        have HC1 := Aside0.mk (C_keep HC.out HB.out.1)
        obtain ⟨ad, A3, c3, rfl, g0, g1, g2, g3, l3, hC3⟩ := at_T24 HC1.out (k : Int) (by omega) (by omega)
        simp only [Int.toNat_natCast] at g0 g1 g2 g3
        have hx : ks[k]? = some (rd_T24 ks k) := by simp [rd_T24, List.getD_eq_getElem?_getD, List.getElem?_eq_getElem hlt]
        have hm : rd_T24 ks k ∈ ks := List.mem_of_getElem? hx
        generalize rd_T24 ks k = x at *
        have HC4 := Aside0.mk (C_keep HC2.out (HB.out.1.alloc HB.out.1.size (.cells #[.int .u8 x.f0, .int .i64 x.f1, .string x.f2, .slice A3 x.f3.length c3] 24)))
        obtain ⟨ad2, A4, c4, rfl, g4, g5, g6, g7, l4, hC4⟩ := at_T24 HC4.out (k : Int) (by omega) (by omega)
        simp only [Int.toNat_natCast] at g4 g5 g6 g7
        have hy : ms[k]? = some (rd_T24 ms k) := by simp [rd_T24, List.getD_eq_getElem?_getD, List.getElem?_eq_getElem hlt2]
        have hn : rd_T24 ms k ∈ ms := List.mem_of_getElem? hy
        generalize rd_T24 ms k = y at *
        have HD := Aside0.mk (zipAll_drop q ks ms k x y hx hy)
        have HM := Aside0.mk hm
        have HN := Aside0.mk hn
        have HC3 : Aside0 (At _ x A3 c3) := ⟨⟨hC3, l3⟩⟩
        have HC5 : Aside0 (At _ y A4 c4) := ⟨⟨hC4, l4⟩⟩
        clear hx hm hC3 HC1 l3 hy hn hC4 HC4 l4 hlt2
        have HG1 := Aside0.mk (fun w' b1 b2 b3 => HG.out x y A3 c3 A4 c4 w' HM.out HN.out b1 b2 b3)
        generalize q x y = qxy at *
        cases qxy
        · go_wp2
          refine (HG1.out _ ((HB.out.1.alloc HB.out.1.size _).alloc (by rw [World.size_alloc]; have := HB.out.1.size; omega) _) (HC3.out.below (((Below.refl _ _).alloc (Nat.le_refl _) _).alloc (by rw [World.size_alloc]; omega) _)) (HC5.out.below ((Below.refl _ _).alloc (Nat.le_refl _) _))).mono ?_
          rintro e w' ⟨rfl, hB1⟩
          have HB1 := Aside0.mk hB1
          clear hB1
          go_wp2
          go_ret
          exact ⟨bret (by rw [HB.out.2, HD.out]; simp), ((HB.out.1.alloc HB.out.1.size _).alloc (by rw [World.size_alloc]; have := HB.out.1.size; omega) _).trans (HB1.out.mono (by rw [World.size_alloc, World.size_alloc]; have := HB.out.1.size; omega))⟩
        · go_wp2
          refine (HG1.out _ ((HB.out.1.alloc HB.out.1.size _).alloc (by rw [World.size_alloc]; have := HB.out.1.size; omega) _) (HC3.out.below (((Below.refl _ _).alloc (Nat.le_refl _) _).alloc (by rw [World.size_alloc]; omega) _)) (HC5.out.below ((Below.refl _ _).alloc (Nat.le_refl _) _))).mono ?_
          rintro e w' ⟨rfl, hB1⟩
          have HB1 := Aside0.mk hB1
          clear hB1
          go_wp2
          go_roundw
          case rel => exact ⟨k + 1, by omega, by go_num, ⟨⟨((HB.out.1.alloc HB.out.1.size _).alloc (by rw [World.size_alloc]; have := HB.out.1.size; omega) _).trans (HB1.out.mono (by rw [World.size_alloc, World.size_alloc]; have := HB.out.1.size; omega)), by rw [HB.out.2, HD.out]; simp⟩⟩⟩
          case measure => simp [intOf]; omega
      · have ek : k = ks.length := by omega
        subst ek
        go_wp2
        go_ret
        exact ⟨bret (by have := HL.out; rw [HB.out.2, List.drop_of_length_le (by omega), List.drop_of_length_le (by omega)]; rfl), HB.out.1⟩
  · have hb : ((ks.length : Int) == (ms.length : Int)) = false := by rw [beq_eq_false_iff_ne]; omega
    have HF := Aside0.mk (zipAll_ne q ks ms hl)
    clear hl
    go_enter Tryd.func91, Tryd.ntmps91
    go_wp2
    go_ret
    exact ⟨bret HF.out.symm, Below.refl _ _⟩
set_option maxHeartbeats 2000000 in
theorem equalC (g : Nat) (m : Value) (eg : ∀ args w, (callFunc g args).run Tryd.prog w = .ok (.enter g args) w) (q : Nd → Int → Bool) (A : Option Addr) (cap : Nat) (A2 : Option Addr) (cap2 : Nat) (ks : List Nd) (ms : List Int) (w : World)
    (hg : ∀ (x : Nd) (y : Int) (A' : Option Addr) (c' : Nat) (w' : World), x ∈ ks → y ∈ ms → Below w.heap.size w w' → At w' x A' c' → Calls Tryd.prog g #[m, nodeV x A' c', .int .u8 y] w' fun e w'' => e = .returned (.bool (q x y)) ∧ Below w'.heap.size w' w'')
    (hC : Kd.C kNd w A ks.length ks) (hC2 : Kd.C (Kd.int .u8) w A2 ms.length ms) :
    Calls Tryd.prog 118 #[.slice A ks.length cap, .slice A2 ms.length cap2, .func (.func g) #[m] #[]] w fun e w' => e = .returned (.bool (zipAll q ks ms)) ∧ Below w.heap.size w w' := by
  have hlen : ks.length ≤ 9223372036854775807 := hC.2.1
  have HG := Aside0.mk hg
  have HC := Aside0.mk hC
  clear hg hC
  by_cases hl : ks.length = ms.length
  · rw [← hl] at hC2
    rw [← hl]
    have HC2 := Aside0.mk hC2
    have HL := Aside0.mk hl
    clear hC2 hl
    go_enter Tryd.func118, Tryd.ntmps118
    go_wp2
    go_loopw [7, 8, 9, 17] (fun _ _ _ i wr => ∃ k : Nat, k ≤ ks.length ∧ i = .int .i64 k ∧ Aside0 (Below w.heap.size w wr ∧ zipAll q ks ms = zipAll q (ks.drop k) (ms.drop k))) (fun _ _ _ i _ => ks.length - (intOf i).toNat)
    case atStart => exact ⟨0, Nat.zero_le _, rfl, ⟨⟨Below.refl _ _, rfl⟩⟩⟩
    case round =>
      obtain ⟨k, hk, rfl, HB⟩ := hrel
      by_cases hlt : k < ks.length
      · have hlt2 : k < ms.length := by have := HL.out; omega
        have HC1 := Aside0.mk (C_keep HC.out HB.out.1)
        obtain ⟨ad, A3, c3, rfl, g0, g1, g2, g3, l3, hC3⟩ := at_T24 HC1.out (k : Int) (by omega) (by omega)
        simp only [Int.toNat_natCast] at g0 g1 g2 g3
        have hx : ks[k]? = some (rd_T24 ks k) := by simp [rd_T24, List.getD_eq_getElem?_getD, List.getElem?_eq_getElem hlt]
        have hm : rd_T24 ks k ∈ ks := List.mem_of_getElem? hx
        generalize rd_T24 ks k = x at *
        have HC4 := Aside0.mk (Kd.C_below HC2.out (HB.out.1.alloc HB.out.1.size (.cells #[.int .u8 x.f0, .int .i64 x.f1, .string x.f2, .slice A3 x.f3.length c3] 24)))
        obtain ⟨ad2, cs, rfl, hcs, hK, hcell⟩ := Kd.C_get HC4.out (0 : Int) (k : Int) (by omega) (by omega)
        have e : ms.getD k 0 = ms[k] := by simp [List.getD_eq_getElem?_getD, List.getElem?_eq_getElem hlt2]
        simp only [Int.toNat_natCast] at hK hcell
        rw [e] at hK
        obtain rfl : cs = [.int .u8 ms[k]] := hK
        have hc0 := hcell 0 _ rfl
        have e2 : k * (Kd.int .u8).sz + 0 = k := by show k * 1 + 0 = k; omega
        rw [e2] at hc0
        have hy : ms[k]? = some ms[k] := List.getElem?_eq_getElem hlt2
        have hn : ms[k] ∈ ms := List.mem_of_getElem? hy
        clear hcell hcs e e2
        generalize ms[k] = y at *
        have HD := Aside0.mk (zipAll_drop q ks ms k x y hx hy)
        have HM := Aside0.mk hm
        have HN := Aside0.mk hn
        have HC3 : Aside0 (At _ x A3 c3) := ⟨⟨hC3, l3⟩⟩
        clear hx hm hC3 HC1 l3 hy hn HC4 hlt2
        have HG1 := Aside0.mk (fun w' b1 b2 => HG.out x y A3 c3 w' HM.out HN.out b1 b2)
        generalize q x y = qxy at *
        cases qxy
        · go_wp2
          refine (HG1.out _ (HB.out.1.alloc HB.out.1.size _) (HC3.out.below ((Below.refl _ _).alloc (Nat.le_refl _) _))).mono ?_
          rintro e w' ⟨rfl, hB1⟩
          have HB1 := Aside0.mk hB1
          clear hB1
          go_wp2
          go_ret
          exact ⟨bret (by rw [HB.out.2, HD.out]; simp), (HB.out.1.alloc HB.out.1.size _).trans (HB1.out.mono (by rw [World.size_alloc]; have := HB.out.1.size; omega))⟩
        · go_wp2
          refine (HG1.out _ (HB.out.1.alloc HB.out.1.size _) (HC3.out.below ((Below.refl _ _).alloc (Nat.le_refl _) _))).mono ?_
          rintro e w' ⟨rfl, hB1⟩
          have HB1 := Aside0.mk hB1
          clear hB1
          go_wp2
          go_roundw
          case rel => exact ⟨k + 1, by omega, by go_num, ⟨⟨(HB.out.1.alloc HB.out.1.size _).trans (HB1.out.mono (by rw [World.size_alloc]; have := HB.out.1.size; omega)), by rw [HB.out.2, HD.out]; simp⟩⟩⟩
          case measure => simp [intOf]; omega
      · have ek : k = ks.length := by omega
        subst ek
        go_wp2
        go_ret
        exact ⟨bret (by have := HL.out; rw [HB.out.2, List.drop_of_length_le (by omega), List.drop_of_length_le (by omega)]; rfl), HB.out.1⟩
  · have hb : ((ks.length : Int) == (ms.length : Int)) = false := by rw [beq_eq_false_iff_ne]; omega
    have HF := Aside0.mk (zipAll_ne q ks ms hl)
    clear hl
    go_enter Tryd.func118, Tryd.ntmps118
    go_wp2
    go_ret
    exact ⟨bret HF.out.symm, Below.refl _ _⟩
end Go.Proofs.YtmdbbfoejmakdaaDoor.Ha

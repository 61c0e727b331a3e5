/-
  The contracts of ast.Same. By this session, out of its own program (wip/gen).
-/
import Derived.Test.YtmdbbfoejmakdaaDoorHcon
import Derived.Test.YtmdbbfoejmakdaaDoorHeq
namespace Go.Proofs.YtmdbbfoejmakdaaDoor.Ha
open Go.RowKit Go.Proofs.YtmdbbfoejmakdaaDoorW.PrintWords Go.Proofs.YtmdbbfoejmakdaaDoorW.PrintLast Go.Proofs.YtmdbbfoejmakdaaDoorW.PrintMore Go.Proofs.YtmdbbfoejmakdaaDoor.P
set_option linter.unusedVariables false
set_option linter.unusedSimpArgs false
open Hl
abbrev tskC (t : S65) (A2 : Option Addr) (c2 : Nat) (A3 : Option Addr) (c3 : Nat) (A7 : Option Addr) (c7 : Nat) : Array Value := #[.string t.f0, .int .i64 t.f1, .slice A2 t.f2.length c2, .slice A3 t.f3.length c3, .int .u8 t.f4.f0, .int .i64 t.f4.f1, .string t.f4.f2, .slice A7 t.f4.f3.length c7]
theorem eqStrN (a b : List ByteArray) (A : Option Addr) (c : Nat) (B : Option Addr) (d : Nat) (w : World) (hl : a.length ≤ 1000000) (hc : a.length ≤ c) (hd : b.length ≤ d) (hA : Kd.C Kd.string w A a.length a) (hB : Kd.C Kd.string w B b.length b) :
    Calls Tryd.prog 77 #[.slice A a.length c, .slice B b.length d] w fun e w' => e = .returned (.bool (zipQ eqS a b)) ∧ Below w.heap.size w w' := by
  obtain ⟨k, hk⟩ := (slEqS a b hl).ex
  exact (slices_Equal_string_string.calls k A c a B d b _ w hA hc hB hd hk).mono fun e w' ⟨he, h⟩ => ⟨he, h.below⟩
theorem eqArrN (a b : List S71) (A : Option Addr) (c : Nat) (B : Option Addr) (d : Nat) (w : World) (hl : a.length ≤ 1000000) (hc : a.length ≤ c) (hd : b.length ≤ d) (hA : Kd.C k71 w A a.length a) (hB : Kd.C k71 w B b.length b) :
    Calls Tryd.prog 99 #[.slice A a.length c, .slice B b.length d] w fun e w' => e = .returned (.bool (zipQ eqA a b)) ∧ Below w.heap.size w w' := by
  obtain ⟨k, hk⟩ := (slEqA a b hl).ex
  exact (api_Array.calls k A c a B d b _ w hA hc hB hd hk).mono fun e w' ⟨he, h⟩ => ⟨he, h.below⟩
theorem rListN (a b : List S71) (A : Option Addr) (c : Nat) (B : Option Addr) (d : Nat) (w : World) (hl : a.length ≤ 1000000) (hc : a.length ≤ c) (hd : b.length ≤ d) (hA : Kd.C k71 w A a.length a) (hB : Kd.C k71 w B b.length b) :
    Calls Tryd.prog 102 #[.slice A a.length c, .slice B b.length d] w fun e w' => e = .returned (.bool (zipQ eqA a b)) ∧ Below w.heap.size w w' := by
  obtain ⟨k, hk⟩ := (refList a b hl).ex
  exact (ontimeref12_list.calls k A c a B d b _ w hA hc hB hd hk).mono fun e w' ⟨he, h⟩ => ⟨he, h.below⟩
theorem enter_Same1 (args : Array Value) (w : World) : (callFunc 101 args).run Tryd.prog w = .ok (.enter 101 args) w := by go_simp
set_option maxHeartbeats 4000000 in
set_option maxRecDepth 100000 in
theorem sameT1 (a b : S65) (A2 : Option Addr) (c2 : Nat) (A3 : Option Addr) (c3 : Nat) (A7 : Option Addr) (c7 : Nat) (B2 : Option Addr) (d2 : Nat) (B3 : Option Addr) (d3 : Nat) (B7 : Option Addr) (d7 : Nat) (w : World) (hl2 : a.f2.length ≤ 1000000) (hl3 : a.f3.length ≤ 1000000) (hA : AtT w a A2 c2 A3 c3 A7 c7) (hB : AtT w b B2 d2 B3 d3 B7 d7) :
    Calls Tryd.prog 101 #[tskV a A2 c2 A3 c3 A7 c7, tskV b B2 d2 B3 d3 B7 d7] w fun e w' => e = .returned (.bool (sameT a b)) ∧ Below w.heap.size w w' := by
  have hb0 : Below w.heap.size w ((w.alloc (.cells (tskC a A2 c2 A3 c3 A7 c7) 65)).alloc (.cells (tskC b B2 d2 B3 d3 B7 d7) 65)) := ((Below.refl _ w).alloc (Nat.le_refl _) _).alloc (by simp) _
  have HS := Aside0.mk (fun w' (h : Below w.heap.size w w') => eqStrN a.f2 b.f2 A2 c2 B2 d2 w' hl2 hA.l2 hB.l2 (hA.below h).C2 (hB.below h).C2)
  have HA := Aside0.mk (fun w' (h : Below w.heap.size w w') => eqArrN a.f3 b.f3 A3 c3 B3 d3 w' hl3 hA.l3 hB.l3 (hA.below h).C3 (hB.below h).C3)
  have HE := Aside0.mk (fun w' (h : Below w.heap.size w w') => equal_n _ a.f4 b.f4 A7 B7 c7 d7 w' (Nat.le_refl _) (hA.below h).body (hB.below h).body)
  have hca : ∀ j, ((w.alloc (.cells (tskC a A2 c2 A3 c3 A7 c7) 65)).alloc (.cells (tskC b B2 d2 B3 d3 B7 d7) 65)).cell? ⟨w.heap.size, j, none⟩ = (tskC a A2 c2 A3 c3 A7 c7)[j]? := box_keep ((Below.refl _ _).alloc (Nat.le_refl _) _) (by simp) (box_new w _ _)
  have hcb : ∀ j, ((w.alloc (.cells (tskC a A2 c2 A3 c3 A7 c7) 65)).alloc (.cells (tskC b B2 d2 B3 d3 B7 d7) 65)).cell? ⟨w.heap.size + 1, j, none⟩ = (tskC b B2 d2 B3 d3 B7 d7)[j]? := fun j => by
    have := box_new (w.alloc (.cells (tskC a A2 c2 A3 c3 A7 c7) 65)) (tskC b B2 d2 B3 d3 B7 d7) 65 j
    rwa [World.size_alloc] at this
  have HB0 := Aside0.mk hb0
  have HCA := Aside0.mk hca
  have HCB := Aside0.mk hcb
  clear hl2 hl3 hA hB hb0
  by_cases p0 : ¬ (a.f0.toList == b.f0.toList) = true
  · have q0 : (a.f0.toList == b.f0.toList) = false := by simpa using p0
    go_enter Tryd.func101, Tryd.ntmps101
    go_wp2
    go_ret
    exact ⟨Hl.bret (by unfold sameT eqS; rw [q0]; simp), HB0.out⟩
  replace p0 := Decidable.not_not.1 p0
  have P0 := Aside0.mk p0
  by_cases p1 : ¬ (a.f1 == b.f1) = true
  · have q0 : (a.f1 == b.f1) = false := by simpa using p1
    have Q0 := Aside0.mk q0
    go_enter Tryd.func101, Tryd.ntmps101
    go_wp2
    go_ret
    exact ⟨Hl.bret (by unfold sameT eqS; rw [P0.out, Q0.out]; simp), HB0.out⟩
  replace p1 := Decidable.not_not.1 p1
  have P1 := Aside0.mk p1
  have EQ : Aside0 (sameT a b = (zipQ eqS a.f2 b.f2 && zipQ eqA a.f3 b.f3 && eqN a.f4 b.f4)) := ⟨by unfold sameT; rw [show eqS a.f0 b.f0 = true from p0, p1]; simp⟩
  go_enter Tryd.func101, Tryd.ntmps101
  go_wp2_with fail
  refine (HS.out _ HB0.out).mono ?_
  rintro e w1 ⟨rfl, hB1⟩
  have hca1 := box_keep hB1 (by simp <;> omega) HCA.out
  have hcb1 := box_keep hB1 (by simp) HCB.out
  have HB1 : Aside0 (Below w.heap.size w w1) := ⟨HB0.out.trans (hB1.mono HB0.out.size)⟩
  have hz1 : w.heap.size + 1 < w1.heap.size := by have := hB1.size; simp at this; omega
  have hz1' : w.heap.size < w1.heap.size := by omega
  clear hB1 hca hcb HCA HCB
  cases h2 : zipQ eqS a.f2 b.f2
  · go_wp2
    go_ret
    exact ⟨Hl.bret (by rw [EQ.out, h2]; simp), HB1.out⟩
  go_wp2_with fail
  refine (HA.out _ HB1.out).mono ?_
  rintro e w2 ⟨rfl, hB2⟩
  have hca2 := box_keep hB2 hz1' hca1
  have hcb2 := box_keep hB2 hz1 hcb1
  have HB2 : Aside0 (Below w.heap.size w w2) := ⟨HB1.out.trans (hB2.mono HB1.out.size)⟩
  clear hB2 hca1 hcb1
  cases h3 : zipQ eqA a.f3 b.f3
  · go_wp2
    go_ret
    exact ⟨Hl.bret (by rw [EQ.out, h2, h3]; simp), HB2.out⟩
  go_wp2_with fail
  refine (HE.out _ HB2.out).mono ?_
  rintro e w3 ⟨rfl, hB3⟩
  have HB3 : Aside0 (Below w.heap.size w w3) := ⟨HB2.out.trans (hB3.mono HB2.out.size)⟩
  clear hB3 hca2 hcb2
  go_wp2
  go_ret
  exact ⟨Hl.bret (by rw [EQ.out, h2, h3]; simp), HB3.out⟩
set_option maxHeartbeats 4000000 in
set_option maxRecDepth 100000 in
theorem equalT (g : Nat) (eg : ∀ args w, (callFunc g args).run Tryd.prog w = .ok (.enter g args) w) (q : S65 → S65 → Bool) (A : Option Addr) (cap : Nat) (A2 : Option Addr) (cap2 : Nat) (ks ms : List S65) (w : World)
    (hg : ∀ (x y : S65) (A2 : Option Addr) (c2 : Nat) (A3 : Option Addr) (c3 : Nat) (A7 : Option Addr) (c7 : Nat) (B2 : Option Addr) (d2 : Nat) (B3 : Option Addr) (d3 : Nat) (B7 : Option Addr) (d7 : Nat) (w' : World), x ∈ ks → y ∈ ms → Below w.heap.size w w' → AtT w' x A2 c2 A3 c3 A7 c7 → AtT w' y B2 d2 B3 d3 B7 d7 → Calls Tryd.prog g #[tskV x A2 c2 A3 c3 A7 c7, tskV y B2 d2 B3 d3 B7 d7] w' fun e w'' => e = .returned (.bool (q x y)) ∧ Below w'.heap.size w' w'')
    (hC : Kd.C k65 w A ks.length ks) (hC2 : Kd.C k65 w A2 ms.length ms) :
    Calls Tryd.prog 100 #[.slice A ks.length cap, .slice A2 ms.length cap2, .func (.func g) #[] #[]] w fun e w' => e = .returned (.bool (zipQ q ks ms)) ∧ Below w.heap.size w w' := by
  have hlen : ks.length ≤ 9223372036854775807 := hC.2.1
  have HG := Aside0.mk hg
  have HC := Aside0.mk hC
  clear hg hC
  by_cases hl : ks.length = ms.length
  · rw [← hl] at hC2
    rw [← hl]
    have HC2 := Aside0.mk hC2
    have HL := Aside0.mk hl
    clear hC2 hl
    go_enter Tryd.func100, Tryd.ntmps100
    go_wp2
    go_loopw [7, 8, 9, 17] (fun _ _ _ i wr => ∃ k : Nat, k ≤ ks.length ∧ i = .int .i64 k ∧ Aside0 (Below w.heap.size w wr ∧ zipQ q ks ms = zipQ q (ks.drop k) (ms.drop k))) (fun _ _ _ i _ => ks.length - (intOf i).toNat)
    case atStart => exact ⟨0, Nat.zero_le _, rfl, ⟨⟨Below.refl _ _, rfl⟩⟩⟩
    case round =>
      obtain ⟨k, hk, rfl, HB⟩ := hrel
      by_cases hlt : k < ks.length
      · have hlt2 : k < ms.length := by have := HL.out; omega
        have HD := Aside0.mk (zipQ_drop q ks ms k hlt hlt2)
        have hrx : rd_T65 ks (k : Int) = ks[k] := rdT hlt
        have hry : rd_T65 ms (k : Int) = ms[k] := rdT hlt2
        have HM := Aside0.mk (List.getElem_mem hlt)
        have HN := Aside0.mk (List.getElem_mem hlt2)
        have HC1 := Aside0.mk (Kd.C_below HC.out HB.out.1)
        obtain ⟨ad, X2, x2, X3, x3, X7, x7, rfl, g0, g1, g2, g3, g4, g5, g6, g7, l2, C2, l3, C3, l7, C7⟩ := at_T65 HC1.out (k : Int) (by omega) (by omega)
        simp only [Int.toNat_natCast] at g0 g1 g2 g3 g4 g5 g6 g7
        rw [hrx] at g0 g1 g2 g3 g4 g5 g6 g7 l2 C2 l3 C3 l7 C7
        generalize ks[k] = x at *
        have HC4 := Aside0.mk (Kd.C_below HC2.out (HB.out.1.alloc HB.out.1.size (.cells (tskC x X2 x2 X3 x3 X7 x7) 65)))
        obtain ⟨ad2, Y2, y2, Y3, y3, Y7, y7, rfl, k0, k1, k2, k3, k4, k5, k6, k7, m2, D2, m3, D3, m7, D7⟩ := at_T65 HC4.out (k : Int) (by omega) (by omega)
        simp only [Int.toNat_natCast] at k0 k1 k2 k3 k4 k5 k6 k7
        rw [hry] at k0 k1 k2 k3 k4 k5 k6 k7 m2 D2 m3 D3 m7 D7
        generalize ms[k] = y at *
        have HX : Aside0 (AtT _ x X2 x2 X3 x3 X7 x7) := ⟨⟨l2, C2, l3, C3, C7, l7⟩⟩
        have HY : Aside0 (AtT _ y Y2 y2 Y3 y3 Y7 y7) := ⟨⟨m2, D2, m3, D3, D7, m7⟩⟩
        clear l2 C2 l3 C3 C7 l7 m2 D2 m3 D3 D7 m7 HC1 HC4 hlt2 hrx hry
        have HG1 := Aside0.mk (fun w' b1 b2 b3 => HG.out x y X2 x2 X3 x3 X7 x7 Y2 y2 Y3 y3 Y7 y7 w' HM.out HN.out b1 b2 b3)
        generalize q x y = qxy at *
        cases qxy
        · go_wp2
          refine (HG1.out _ ((HB.out.1.alloc HB.out.1.size _).alloc (by rw [World.size_alloc]; have := HB.out.1.size; omega) _) (HX.out.below (((Below.refl _ _).alloc (Nat.le_refl _) _).alloc (by rw [World.size_alloc]; omega) _)) (HY.out.below ((Below.refl _ _).alloc (Nat.le_refl _) _))).mono ?_
          rintro e w' ⟨rfl, hB1⟩
          have HB1 := Aside0.mk hB1
          clear hB1
          go_wp2
          go_ret
          exact ⟨Hl.bret (by rw [HB.out.2, HD.out]; simp), ((HB.out.1.alloc HB.out.1.size _).alloc (by rw [World.size_alloc]; have := HB.out.1.size; omega) _).trans (HB1.out.mono (by rw [World.size_alloc, World.size_alloc]; have := HB.out.1.size; omega))⟩
        · go_wp2
          refine (HG1.out _ ((HB.out.1.alloc HB.out.1.size _).alloc (by rw [World.size_alloc]; have := HB.out.1.size; omega) _) (HX.out.below (((Below.refl _ _).alloc (Nat.le_refl _) _).alloc (by rw [World.size_alloc]; omega) _)) (HY.out.below ((Below.refl _ _).alloc (Nat.le_refl _) _))).mono ?_
          rintro e w' ⟨rfl, hB1⟩
          have HB1 := Aside0.mk hB1
          clear hB1
          go_wp2
          go_roundw
          case rel => exact ⟨k + 1, by omega, by go_num, ⟨⟨((HB.out.1.alloc HB.out.1.size _).alloc (by rw [World.size_alloc]; have := HB.out.1.size; omega) _).trans (HB1.out.mono (by rw [World.size_alloc, World.size_alloc]; have := HB.out.1.size; omega)), by rw [HB.out.2, HD.out]; simp⟩⟩⟩
          case measure => simp [intOf]; omega
      · have ek : k = ks.length := by omega
        subst ek
        go_wp2
        go_ret
        exact ⟨Hl.bret (by have := HL.out; rw [HB.out.2, List.drop_of_length_le (by omega), List.drop_of_length_le (by omega)]; rfl), HB.out.1⟩
  · have hb : ((ks.length : Int) == (ms.length : Int)) = false := by rw [beq_eq_false_iff_ne]; omega
    have HF := Aside0.mk (zipQ_ne q ks ms hl)
    clear hl
    go_enter Tryd.func100, Tryd.ntmps100
    go_wp2
    go_ret
    exact ⟨Hl.bret HF.out.symm, Below.refl _ _⟩
/-- What Same asks of the bounds. -/
def lenP (sh : List S71) (ts : List S65) : Prop := sh.length ≤ 1000000 ∧ ∀ t ∈ ts, t.f2.length ≤ 1000000 ∧ t.f3.length ≤ 1000000
set_option maxHeartbeats 4000000 in
set_option maxRecDepth 100000 in
theorem SameN (sh : List S71) (A0 : Option Addr) (c0 : Nat) (ts : List S65) (A1 : Option Addr) (c1 : Nat) (sh2 : List S71) (B0 : Option Addr) (d0 : Nat) (ts2 : List S65) (B1 : Option Addr) (d1 : Nat) (w : World) (hl : lenP sh ts) (hA : AtP w sh A0 c0 ts A1 c1) (hB : AtP w sh2 B0 d0 ts2 B1 d1) :
    Calls Tryd.prog 48 #[.agg #[.slice A0 sh.length c0, .slice A1 ts.length c1], .agg #[.slice B0 sh2.length d0, .slice B1 ts2.length d1]] w fun e w' => e = .returned (.bool (sameP sh sh2 ts ts2)) ∧ Below w.heap.size w w' := by
  have hb0 : Below w.heap.size w ((w.alloc (.cells #[.slice A0 sh.length c0, .slice A1 ts.length c1] 50)).alloc (.cells #[.slice B0 sh2.length d0, .slice B1 ts2.length d1] 50)) := ((Below.refl _ w).alloc (Nat.le_refl _) _).alloc (by simp) _
  have HA := Aside0.mk (fun w' (h : Below w.heap.size w w') => eqArrN sh sh2 A0 c0 B0 d0 w' hl.1 hA.le0 hB.le0 (hA.below h).C0 (hB.below h).C0)
  have HE := Aside0.mk (fun w' (h : Below w.heap.size w w') => equalT 101 enter_Same1 sameT A1 c1 B1 d1 ts ts2 w' (fun x y A2 c2 A3 c3 A7 c7 B2 d2 B3 d3 B7 d7 w2 hx _ hb h1 h2 => sameT1 x y A2 c2 A3 c3 A7 c7 B2 d2 B3 d3 B7 d7 w2 (hl.2 x hx).1 (hl.2 x hx).2 h1 h2) (hA.below h).C1 (hB.below h).C1)
  have hca : ∀ j, ((w.alloc (.cells #[.slice A0 sh.length c0, .slice A1 ts.length c1] 50)).alloc (.cells #[.slice B0 sh2.length d0, .slice B1 ts2.length d1] 50)).cell? ⟨w.heap.size, j, none⟩ = #[Value.slice A0 sh.length c0, .slice A1 ts.length c1][j]? := box_keep ((Below.refl _ _).alloc (Nat.le_refl _) _) (by simp) (box_new w _ _)
  have hcb : ∀ j, ((w.alloc (.cells #[.slice A0 sh.length c0, .slice A1 ts.length c1] 50)).alloc (.cells #[.slice B0 sh2.length d0, .slice B1 ts2.length d1] 50)).cell? ⟨w.heap.size + 1, j, none⟩ = #[Value.slice B0 sh2.length d0, .slice B1 ts2.length d1][j]? := fun j => by
    have := box_new (w.alloc (.cells #[.slice A0 sh.length c0, .slice A1 ts.length c1] 50)) #[.slice B0 sh2.length d0, .slice B1 ts2.length d1] 50 j
    rwa [World.size_alloc] at this
  have HB0 := Aside0.mk hb0
  have HCA := Aside0.mk hca
  have HCB := Aside0.mk hcb
  clear hl hA hB hb0
  go_enter Tryd.func48, Tryd.ntmps48
  go_wp2_with fail
  refine (HA.out _ HB0.out).mono ?_
  rintro e w1 ⟨rfl, hB1⟩
  have hca1 := box_keep hB1 (by simp <;> omega) HCA.out
  have hcb1 := box_keep hB1 (by simp) HCB.out
  have HB1 : Aside0 (Below w.heap.size w w1) := ⟨HB0.out.trans (hB1.mono HB0.out.size)⟩
  clear hB1 hca hcb HCA HCB
  cases h2 : zipQ eqA sh sh2
  · go_wp2
    go_ret
    exact ⟨Hl.bret (by unfold sameP; rw [h2]; simp), HB1.out⟩
  go_wp2_with fail
  refine (HE.out _ HB1.out).mono ?_
  rintro e w2 ⟨rfl, hB2⟩
  have HB2 : Aside0 (Below w.heap.size w w2) := ⟨HB1.out.trans (hB2.mono HB1.out.size)⟩
  clear hB2 hca1 hcb1
  go_wp2
  go_ret
  exact ⟨Hl.bret (by unfold sameP; rw [h2]; simp), HB2.out⟩
end Go.Proofs.YtmdbbfoejmakdaaDoor.Ha

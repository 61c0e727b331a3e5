/-
  The law AstAt, walked: it returns true. By this session, out of its own program (wip/gen).
-/
import Derived.Test.YtmdbbfoejmakdaaDoorHawake
import Derived.Test.YtmdbbfoejmakdaaDoorHbig
import Derived.Test.YtmdbbfoejmakdaaDoorHeq
import Derived.Test.YtmdbbfoejmakdaaDoorHat
namespace Go.Proofs.YtmdbbfoejmakdaaDoor.Ha
open Go.RowKit Go.Proofs.YtmdbbfoejmakdaaDoorW.PrintWords Go.Proofs.YtmdbbfoejmakdaaDoorW.PrintLast Go.Proofs.YtmdbbfoejmakdaaDoorW.PrintMore Go.Proofs.YtmdbbfoejmakdaaDoor.P
set_option linter.unusedVariables false
set_option linter.unusedSimpArgs false
open Hl
theorem rd_mem {l : List Nd} {i : Int} (h0 : 0 ≤ i) (h1 : i < l.length) : rd_T24 l i ∈ l := by
  obtain ⟨k, rfl⟩ : ∃ k : Nat, i = k := ⟨i.toNat, by omega⟩
  have hk : k < l.length := by omega
  rw [rd_get hk]
  exact List.getElem_mem hk
theorem atN_sz : ∀ (path : List Int) (x : Nd), szN (atN x path).1 ≤ szN x
  | [], x => by rw [atN]; exact Nat.le_refl _
  | i :: r, x => by
    have h3 := szN_eq x
    by_cases h : i < 0 ∨ (x.f3.length : Int) ≤ i
    · rw [atN, if_pos h]
      show szN z24 ≤ szN x
      have : szN z24 = 1 := rfl
      omega
    · rw [atN, if_neg h]
      have h1 := atN_sz r (rd_T24 x.f3 i)
      have h2 := szL_mem (rd_mem (l := x.f3) (i := i) (by omega) (by omega))
      omega
set_option maxHeartbeats 4000000 in
set_option maxRecDepth 100000 in
theorem lawAt (x : Nd) (A : Option Addr) (c : Nat) (path : List Int) (Pa : Option Addr) (pc : Nat) (w : World) (hT : TabOk w) (hA : At w x A c) (hP : Kd.C (Kd.int .i64) w Pa path.length path) :
    Calls Tryd.prog 8 #[nodeV x A c, .slice Pa path.length pc] w fun e w' => e = .returned (.bool true) ∧ Below w.heap.size w w' := by
  have HW := Aside0.mk (awake (w.alloc (.cells #[.int .u8 x.f0, .int .i64 x.f1, .string x.f2, .slice A x.f3.length c] 24)) (hT.below ((Below.refl _ w).alloc (Nat.le_refl _) _)))
  have HC0 := Aside0.mk (box_new w (#[.int .u8 x.f0, .int .i64 x.f1, .string x.f2, .slice A x.f3.length c]) 24)
  have hz0 : w.heap.size < (w.alloc (.cells #[.int .u8 x.f0, .int .i64 x.f1, .string x.f2, .slice A x.f3.length c] 24)).heap.size := by simp
  rcases big_ok x with hb | ⟨hb, hs, hd⟩
  · have HB := Aside0.mk (fun w' (h : Below w.heap.size w w') => big1 hb (hA.below h))
    clear hb hA hT hP
    go_enter Tryd.func8, Tryd.ntmps8
    go_wp2_with fail
    refine HW.out.mono ?_
    rintro e w1 ⟨rfl, hB1⟩
    have hc1 := box_keep hB1 hz0 HC0.out
    have HU1 : Aside0 (Below w.heap.size w w1) := ⟨((Below.refl _ w).alloc (Nat.le_refl _) _).trans (hB1.mono (by simp))⟩
    have HZ1 : Aside0 (w.heap.size < w1.heap.size) := ⟨by have := hB1.size; omega⟩
    clear hB1
    go_wp2_with fail
    refine (HB.out _ HU1.out).mono ?_
    rintro e w2 ⟨rfl, hB2⟩
    have hc2 := box_keep hB2 HZ1.out hc1
    have HU2 : Aside0 (Below w.heap.size w w2) := ⟨HU1.out.trans (hB2.mono HU1.out.size)⟩
    have HZ2 : Aside0 (w.heap.size < w2.heap.size) := ⟨by have := hB2.size; have := HZ1.out; omega⟩
    clear hB2 hc1
    go_wp2
    go_ret
    exact ⟨rfl, HU2.out⟩
  · have HB := Aside0.mk (fun w' (h : Below w.heap.size w w') => big0 hb (hA.below h))
    have HA1 := Aside0.mk (fun w' (h : Below w.heap.size w w') => at_a x A c Pa pc path w' (hA.below h) (Kd.C_below hP h))
    have HA2 := Aside0.mk (fun w' (h : Below w.heap.size w w') => at_r x A c Pa pc path w' (hA.below h) (Kd.C_below hP h))
    have hsy : szN (atN x path).1 ≤ 500 := Nat.le_trans (atN_sz path x) hs
    clear hb hA hT hP hs hd
    by_cases hl : (path.length : Int) > 50
    · clear hsy HA1 HA2
      go_enter Tryd.func8, Tryd.ntmps8
      go_wp2_with fail
      refine HW.out.mono ?_
      rintro e w1 ⟨rfl, hB1⟩
      have hc1 := box_keep hB1 hz0 HC0.out
      have HU1 : Aside0 (Below w.heap.size w w1) := ⟨((Below.refl _ w).alloc (Nat.le_refl _) _).trans (hB1.mono (by simp))⟩
      have HZ1 : Aside0 (w.heap.size < w1.heap.size) := ⟨by have := hB1.size; omega⟩
      clear hB1
      go_wp2_with fail
      refine (HB.out _ HU1.out).mono ?_
      rintro e w2 ⟨rfl, hB2⟩
      have hc2 := box_keep hB2 HZ1.out hc1
      have HU2 : Aside0 (Below w.heap.size w w2) := ⟨HU1.out.trans (hB2.mono HU1.out.size)⟩
      have HZ2 : Aside0 (w.heap.size < w2.heap.size) := ⟨by have := hB2.size; have := HZ1.out; omega⟩
      clear hB2 hc1
      go_wp2
      go_ret
      exact ⟨rfl, HU2.out⟩
    · generalize hr : atN x path = r at *
      obtain ⟨y, b⟩ := r
      have HSY := Aside0.mk hsy
      clear hsy hr
      dsimp only at HA1 HA2 HSY
      go_enter Tryd.func8, Tryd.ntmps8
      go_wp2_with fail
      refine HW.out.mono ?_
      rintro e w1 ⟨rfl, hB1⟩
      have hc1 := box_keep hB1 hz0 HC0.out
      have HU1 : Aside0 (Below w.heap.size w w1) := ⟨((Below.refl _ w).alloc (Nat.le_refl _) _).trans (hB1.mono (by simp))⟩
      have HZ1 : Aside0 (w.heap.size < w1.heap.size) := ⟨by have := hB1.size; omega⟩
      clear hB1
      go_wp2_with fail
      refine (HB.out _ HU1.out).mono ?_
      rintro e w2 ⟨rfl, hB2⟩
      have hc2 := box_keep hB2 HZ1.out hc1
      have HU2 : Aside0 (Below w.heap.size w w2) := ⟨HU1.out.trans (hB2.mono HU1.out.size)⟩
      have HZ2 : Aside0 (w.heap.size < w2.heap.size) := ⟨by have := hB2.size; have := HZ1.out; omega⟩
      clear hB2 hc1
      go_wp2_with fail
      refine (HA1.out w2 HU2.out).mono ?_
      rintro e w3 ⟨A5, c5, rfl, hA5, hB3⟩
      have HB3 := Aside0.mk hB3
      have HU3 : Aside0 (Below w.heap.size w (w3.alloc (.cells #[.int .u8 y.f0, .int .i64 y.f1, .string y.f2, .slice A5 y.f3.length c5] 24))) := ⟨(HU2.out.trans (hB3.mono HU2.out.size)).alloc (by have := HU2.out.size; have := hB3.size; omega) _⟩
      have hc3 := box_keep ((Below.refl _ w3).alloc (Nat.le_refl _) (.cells #[.int .u8 y.f0, .int .i64 y.f1, .string y.f2, .slice A5 y.f3.length c5] 24)) (by have := HZ2.out; have := hB3.size; omega) (box_keep hB3 HZ2.out hc2)
      have HA5 := Aside0.mk hA5
      clear hB3 hA5 hc2
      go_wp2_with fail
      refine (HA2.out _ HU3.out).mono ?_
      rintro e w4 ⟨A6, c6, rfl, hA6, hB4⟩
      have HU4 : Aside0 (Below w.heap.size w (w4.alloc (.cells #[.int .u8 y.f0, .int .i64 y.f1, .string y.f2, .slice A6 y.f3.length c6] 24))) := ⟨(HU3.out.trans (hB4.mono HU3.out.size)).alloc (by have := HU3.out.size; have := hB4.size; omega) _⟩
      have h5 := box_keep ((Below.refl _ w4).alloc (Nat.le_refl _) (.cells #[.int .u8 y.f0, .int .i64 y.f1, .string y.f2, .slice A6 y.f3.length c6] 24)) (by have := hB4.size; simp at this; omega) (box_keep hB4 (by simp) (box_new w3 #[Value.int .u8 y.f0, .int .i64 y.f1, .string y.f2, .slice A5 y.f3.length c5] 24))
      have h7 := box_new w4 #[Value.int .u8 y.f0, .int .i64 y.f1, .string y.f2, .slice A6 y.f3.length c6] 24
      have HA5' := Aside0.mk (((HA5.out.below ((Below.refl _ w3).alloc (Nat.le_refl _) _)).below hB4).below ((Below.refl _ w4).alloc (Nat.le_refl _) (.cells #[.int .u8 y.f0, .int .i64 y.f1, .string y.f2, .slice A6 y.f3.length c6] 24)))
      have HA6 := Aside0.mk (hA6.below ((Below.refl _ w4).alloc (Nat.le_refl _) (.cells #[.int .u8 y.f0, .int .i64 y.f1, .string y.f2, .slice A6 y.f3.length c6] 24)))
      clear hB4 hA6 hc3 HA5
      go_wp2_with fail
      refine (rEqual y y (by have := HSY.out; omega) A5 A6 c5 c6 _ HA5'.out HA6.out).mono ?_
      rintro e w5 ⟨rfl, hB5⟩
      have HB5 := Aside0.mk hB5
      have h6 := eqN_refl y
      rw [h6]
      clear hB5 h6
      go_wp2
      go_ret
      exact ⟨rfl, HU4.out.trans (HB5.out.mono HU4.out.size)⟩
end Go.Proofs.YtmdbbfoejmakdaaDoor.Ha

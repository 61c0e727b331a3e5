/-
  The law AstEqual, walked: it returns true. By this session, out of its own program (wip/gen).
-/
import Derived.Test.YtmdbbfoejmakdaaDoorHawake
import Derived.Test.YtmdbbfoejmakdaaDoorHbig
import Derived.Test.YtmdbbfoejmakdaaDoorHeq
namespace Go.Proofs.YtmdbbfoejmakdaaDoor.Ha
open Go.RowKit Go.Proofs.YtmdbbfoejmakdaaDoorW.PrintWords Go.Proofs.YtmdbbfoejmakdaaDoorW.PrintLast Go.Proofs.YtmdbbfoejmakdaaDoorW.PrintMore Go.Proofs.YtmdbbfoejmakdaaDoor.P
set_option linter.unusedVariables false
set_option linter.unusedSimpArgs false
open Hl
set_option maxHeartbeats 4000000 in
set_option maxRecDepth 100000 in
theorem lawEqual (x : Nd) (A : Option Addr) (c : Nat) (y : Nd) (A2 : Option Addr) (c2 : Nat) (z : Nd) (A3 : Option Addr) (c3 : Nat) (w : World) (hT : TabOk w) (hA : At w x A c) (hA2 : At w y A2 c2) (hA3 : At w z A3 c3) :
    Calls Tryd.prog 7 #[nodeV x A c, nodeV y A2 c2, nodeV z A3 c3] w fun e w' => e = .returned (.bool true) ∧ Below w.heap.size w w' := by
  have hbw : Below w.heap.size w (((w.alloc (.cells #[.int .u8 x.f0, .int .i64 x.f1, .string x.f2, .slice A x.f3.length c] 24)).alloc (.cells #[.int .u8 y.f0, .int .i64 y.f1, .string y.f2, .slice A2 y.f3.length c2] 24)).alloc (.cells #[.int .u8 z.f0, .int .i64 z.f1, .string z.f2, .slice A3 z.f3.length c3] 24)) := ((((Below.refl _ _).alloc (Nat.le_refl _) _).alloc (by rw [World.size_alloc]; omega) _).alloc (by simp; omega) _)
  have HBW := Aside0.mk hbw
  have HW := Aside0.mk (awake (((w.alloc (.cells #[.int .u8 x.f0, .int .i64 x.f1, .string x.f2, .slice A x.f3.length c] 24)).alloc (.cells #[.int .u8 y.f0, .int .i64 y.f1, .string y.f2, .slice A2 y.f3.length c2] 24)).alloc (.cells #[.int .u8 z.f0, .int .i64 z.f1, .string z.f2, .slice A3 z.f3.length c3] 24)) (hT.below hbw))
  have hb3 := boxes3 w #[Value.int .u8 x.f0, .int .i64 x.f1, .string x.f2, .slice A x.f3.length c] #[Value.int .u8 y.f0, .int .i64 y.f1, .string y.f2, .slice A2 y.f3.length c2] #[Value.int .u8 z.f0, .int .i64 z.f1, .string z.f2, .slice A3 z.f3.length c3] 24 24 24
  have hs3 : w.heap.size + 1 + 1 < (((w.alloc (.cells #[.int .u8 x.f0, .int .i64 x.f1, .string x.f2, .slice A x.f3.length c] 24)).alloc (.cells #[.int .u8 y.f0, .int .i64 y.f1, .string y.f2, .slice A2 y.f3.length c2] 24)).alloc (.cells #[.int .u8 z.f0, .int .i64 z.f1, .string z.f2, .slice A3 z.f3.length c3] 24)).heap.size := by simp
  have HBX : Aside0 (∀ W', Below (((w.alloc (.cells #[.int .u8 x.f0, .int .i64 x.f1, .string x.f2, .slice A x.f3.length c] 24)).alloc (.cells #[.int .u8 y.f0, .int .i64 y.f1, .string y.f2, .slice A2 y.f3.length c2] 24)).alloc (.cells #[.int .u8 z.f0, .int .i64 z.f1, .string z.f2, .slice A3 z.f3.length c3] 24)).heap.size (((w.alloc (.cells #[.int .u8 x.f0, .int .i64 x.f1, .string x.f2, .slice A x.f3.length c] 24)).alloc (.cells #[.int .u8 y.f0, .int .i64 y.f1, .string y.f2, .slice A2 y.f3.length c2] 24)).alloc (.cells #[.int .u8 z.f0, .int .i64 z.f1, .string z.f2, .slice A3 z.f3.length c3] 24)) W' → (∀ j, W'.cell? ⟨w.heap.size, j, none⟩ = #[Value.int .u8 x.f0, .int .i64 x.f1, .string x.f2, .slice A x.f3.length c][j]?) ∧ (∀ j, W'.cell? ⟨w.heap.size + 1, j, none⟩ = #[Value.int .u8 y.f0, .int .i64 y.f1, .string y.f2, .slice A2 y.f3.length c2][j]?) ∧ (∀ j, W'.cell? ⟨w.heap.size + 1 + 1, j, none⟩ = #[Value.int .u8 z.f0, .int .i64 z.f1, .string z.f2, .slice A3 z.f3.length c3][j]?)) := ⟨fun W' h =>
    ⟨box_keep h (by omega) hb3.1, box_keep h (by omega) hb3.2.1, box_keep h (by omega) hb3.2.2⟩⟩
  clear hbw hT hb3 hs3
  rcases big_ok x with hb0 | ⟨hb0, hs0, _⟩
  · have HB0 := Aside0.mk (fun w' (h : Below w.heap.size w w') => big1 hb0 (hA.below h))
    clear hb0 hA hA2 hA3
    go_enter Tryd.func7, Tryd.ntmps7
    go_wp2_with fail
    refine HW.out.mono ?_
    rintro e w1 ⟨rfl, hB⟩
    have HU1 := Aside0.mk hB
    obtain ⟨g0, g1, g2⟩ := HBX.out _ hB
    clear hB
    go_wp2_with fail
    refine (HB0.out _ (HBW.out.trans (HU1.out.mono HBW.out.size))).mono ?_
    rintro e w2 ⟨rfl, hB⟩
    have HU2 := Aside0.mk (HU1.out.trans (hB.mono HU1.out.size))
    clear g0 g1 g2 hB
    obtain ⟨g0, g1, g2⟩ := HBX.out _ HU2.out
    go_wp2
    go_ret
    exact ⟨rfl, HBW.out.trans (HU2.out.mono HBW.out.size)⟩
  · have HB0 := Aside0.mk (fun w' (h : Below w.heap.size w w') => big0 hb0 (hA.below h))
    rcases big_ok y with hb1 | ⟨hb1, hs1, _⟩
    · have HB1 := Aside0.mk (fun w' (h : Below w.heap.size w w') => big1 hb1 (hA2.below h))
      clear hb0 hb1 hA hA2 hA3
      go_enter Tryd.func7, Tryd.ntmps7
      go_wp2_with fail
      refine HW.out.mono ?_
      rintro e w1 ⟨rfl, hB⟩
      have HU1 := Aside0.mk hB
      obtain ⟨g0, g1, g2⟩ := HBX.out _ hB
      clear hB
      go_wp2_with fail
      refine (HB0.out _ (HBW.out.trans (HU1.out.mono HBW.out.size))).mono ?_
      rintro e w2 ⟨rfl, hB⟩
      have HU2 := Aside0.mk (HU1.out.trans (hB.mono HU1.out.size))
      clear g0 g1 g2 hB
      obtain ⟨g0, g1, g2⟩ := HBX.out _ HU2.out
      go_wp2_with fail
      refine (HB1.out _ (HBW.out.trans (HU2.out.mono HBW.out.size))).mono ?_
      rintro e w3 ⟨rfl, hB⟩
      have HU3 := Aside0.mk (HU2.out.trans (hB.mono HU2.out.size))
      clear g0 g1 g2 hB
      obtain ⟨g0, g1, g2⟩ := HBX.out _ HU3.out
      go_wp2
      go_ret
      exact ⟨rfl, HBW.out.trans (HU3.out.mono HBW.out.size)⟩
    · have HB1 := Aside0.mk (fun w' (h : Below w.heap.size w w') => big0 hb1 (hA2.below h))
      rcases big_ok z with hb2 | ⟨hb2, hs2, _⟩
      · have HB2 := Aside0.mk (fun w' (h : Below w.heap.size w w') => big1 hb2 (hA3.below h))
        clear hb0 hb1 hb2 hA hA2 hA3
        go_enter Tryd.func7, Tryd.ntmps7
        go_wp2_with fail
        refine HW.out.mono ?_
        rintro e w1 ⟨rfl, hB⟩
        have HU1 := Aside0.mk hB
        obtain ⟨g0, g1, g2⟩ := HBX.out _ hB
        clear hB
        go_wp2_with fail
        refine (HB0.out _ (HBW.out.trans (HU1.out.mono HBW.out.size))).mono ?_
        rintro e w2 ⟨rfl, hB⟩
        have HU2 := Aside0.mk (HU1.out.trans (hB.mono HU1.out.size))
        clear g0 g1 g2 hB
        obtain ⟨g0, g1, g2⟩ := HBX.out _ HU2.out
        go_wp2_with fail
        refine (HB1.out _ (HBW.out.trans (HU2.out.mono HBW.out.size))).mono ?_
        rintro e w3 ⟨rfl, hB⟩
        have HU3 := Aside0.mk (HU2.out.trans (hB.mono HU2.out.size))
        clear g0 g1 g2 hB
        obtain ⟨g0, g1, g2⟩ := HBX.out _ HU3.out
        go_wp2_with fail
        refine (HB2.out _ (HBW.out.trans (HU3.out.mono HBW.out.size))).mono ?_
        rintro e w4 ⟨rfl, hB⟩
        have HU4 := Aside0.mk (HU3.out.trans (hB.mono HU3.out.size))
        clear g0 g1 g2 hB
        obtain ⟨g0, g1, g2⟩ := HBX.out _ HU4.out
        go_wp2
        go_ret
        exact ⟨rfl, HBW.out.trans (HU4.out.mono HBW.out.size)⟩
      · have HB2 := Aside0.mk (fun w' (h : Below w.heap.size w w') => big0 hb2 (hA3.below h))
        have E1 : Aside0 (∀ w', Below w.heap.size w w' → Calls Tryd.prog 40 #[nodeV x A c, nodeV y A2 c2] w' fun e w'' => e = .returned (.bool (eqN x y)) ∧ Below w'.heap.size w' w'') := ⟨fun w' h => equal_n _ x y A A2 c c2 w' (Nat.le_refl _) (hA.below h) (hA2.below h)⟩
        have E2 : Aside0 (∀ w', Below w.heap.size w w' → Calls Tryd.prog 40 #[nodeV y A2 c2, nodeV z A3 c3] w' fun e w'' => e = .returned (.bool (eqN y z)) ∧ Below w'.heap.size w' w'') := ⟨fun w' h => equal_n _ y z A2 A3 c2 c3 w' (Nat.le_refl _) (hA2.below h) (hA3.below h)⟩
        have E3 : Aside0 (∀ w', Below w.heap.size w w' → Calls Tryd.prog 40 #[nodeV x A c, nodeV z A3 c3] w' fun e w'' => e = .returned (.bool (eqN x z)) ∧ Below w'.heap.size w' w'') := ⟨fun w' h => equal_n _ x z A A3 c c3 w' (Nat.le_refl _) (hA.below h) (hA3.below h)⟩
        have E4 : Aside0 (∀ w', Below w.heap.size w w' → Calls Tryd.prog 38 #[nodeV x A c, nodeV y A2 c2] w' fun e w'' => e = .returned (.bool (eqN x y)) ∧ Below w'.heap.size w' w'') := ⟨fun w' h => rEqual x y (by omega) A A2 c c2 w' (hA.below h) (hA2.below h)⟩
        have E5 : Aside0 (∀ w', Below w.heap.size w w' → Calls Tryd.prog 40 #[nodeV y A2 c2, nodeV x A c] w' fun e w'' => e = .returned (.bool (eqN y x)) ∧ Below w'.heap.size w' w'') := ⟨fun w' h => equal_n _ y x A2 A c2 c w' (Nat.le_refl _) (hA2.below h) (hA.below h)⟩
        have E6 : Aside0 (∀ w', Below w.heap.size w w' → Calls Tryd.prog 40 #[nodeV x A c, nodeV x A c] w' fun e w'' => e = .returned (.bool (eqN x x)) ∧ Below w'.heap.size w' w'') := ⟨fun w' h => equal_n _ x x A A c c w' (Nat.le_refl _) (hA.below h) (hA.below h)⟩
        have h3 : eqN x y = true → eqN y z = true → eqN x z = true := fun h1 h2 => by rw [eqN_iff] at *; rw [h1, h2]
        have h5 := eqN_symm y x
        have h6 := eqN_refl x
        rw [h5] at E5
        rw [h6] at E6
        clear h5 h6 hb0 hb1 hb2 hA hA2 hA3
        generalize eqN x y = e1 at *
        generalize eqN y z = e2 at *
        generalize eqN x z = e3 at *
        cases e1
        · clear h3
          go_enter Tryd.func7, Tryd.ntmps7
          go_wp2_with fail
          refine HW.out.mono ?_
          rintro e w1 ⟨rfl, hB⟩
          have HU1 := Aside0.mk hB
          obtain ⟨g0, g1, g2⟩ := HBX.out _ hB
          clear hB
          go_wp2_with fail
          refine (HB0.out _ (HBW.out.trans (HU1.out.mono HBW.out.size))).mono ?_
          rintro e w2 ⟨rfl, hB⟩
          have HU2 := Aside0.mk (HU1.out.trans (hB.mono HU1.out.size))
          clear g0 g1 g2 hB
          obtain ⟨g0, g1, g2⟩ := HBX.out _ HU2.out
          go_wp2_with fail
          refine (HB1.out _ (HBW.out.trans (HU2.out.mono HBW.out.size))).mono ?_
          rintro e w3 ⟨rfl, hB⟩
          have HU3 := Aside0.mk (HU2.out.trans (hB.mono HU2.out.size))
          clear g0 g1 g2 hB
          obtain ⟨g0, g1, g2⟩ := HBX.out _ HU3.out
          go_wp2_with fail
          refine (HB2.out _ (HBW.out.trans (HU3.out.mono HBW.out.size))).mono ?_
          rintro e w4 ⟨rfl, hB⟩
          have HU4 := Aside0.mk (HU3.out.trans (hB.mono HU3.out.size))
          clear g0 g1 g2 hB
          obtain ⟨g0, g1, g2⟩ := HBX.out _ HU4.out
          go_wp2_with fail
          refine (E1.out _ (HBW.out.trans (HU4.out.mono HBW.out.size))).mono ?_
          rintro e w5 ⟨rfl, hB⟩
          have HU5 := Aside0.mk (HU4.out.trans (hB.mono HU4.out.size))
          clear g0 g1 g2 hB
          obtain ⟨g0, g1, g2⟩ := HBX.out _ HU5.out
          go_wp2
          have HG : Aside0 _ := ⟨HU5.out⟩
          refine wp_region_quiet (C := fun w' => Below w5.heap.size w5 w') (by kernel_rfl) (by kernel_rfl) ⟨rfl, rfl, rfl, Nat.le_refl _, fun _ _ => rfl⟩ ?_
          clear g0 g1 g2
          have HV := Aside0.mk (fun (w' : World) (hw' : Below w5.heap.size w5 w') => HU5.out.trans (hw'.mono HU5.out.size))
          iterate 22
            refine wpQuiet_step (fun K hK => ?_)
            rw [if_pos (by rfl)]
            first
              | (apply quiet_val
                 intro w' hw'
                 obtain ⟨g0, g1, g2⟩ := HBX.out w' (HV.out w' hw')
                 go_simp
                 try exact rfl
                 refine hK _ ?_)
              | (apply quiet_call
                 intro w' hw'
                 go_simp
                 first | exact rfl | exact ⟨rfl, rfl⟩
                 intro w' hw'
                 with_reducible first
                   | exact (E1.out w' (HBW.out.trans ((HV.out w' hw').mono HBW.out.size))).mono fun e w'' ⟨he, hb⟩ => ⟨he, hw'.trans (hb.mono hw'.size)⟩
                   | exact (E4.out w' (HBW.out.trans ((HV.out w' hw').mono HBW.out.size))).mono fun e w'' ⟨he, hb⟩ => ⟨he, hw'.trans (hb.mono hw'.size)⟩
                   | exact (E5.out w' (HBW.out.trans ((HV.out w' hw').mono HBW.out.size))).mono fun e w'' ⟨he, hb⟩ => ⟨he, hw'.trans (hb.mono hw'.size)⟩
                   | exact (E6.out w' (HBW.out.trans ((HV.out w' hw').mono HBW.out.size))).mono fun e w'' ⟨he, hb⟩ => ⟨he, hw'.trans (hb.mono hw'.size)⟩
                 refine hK _ ?_)
            clear hK K
            simp only [Act.put, List.setIfInBounds_toArray, List.set_cons_zero, List.set_cons_succ]
          refine wpQuiet_nil ?_
          intro wq hBq
          have HBq := Aside0.mk hBq
          clear hBq
          go_wp2
          go_ret
          exact ⟨rfl, HBW.out.trans ((HU5.out.trans (HBq.out.mono HU5.out.size)).mono HBW.out.size)⟩
        · cases e2
          · clear h3
            go_enter Tryd.func7, Tryd.ntmps7
            go_wp2_with fail
            refine HW.out.mono ?_
            rintro e w1 ⟨rfl, hB⟩
            have HU1 := Aside0.mk hB
            obtain ⟨g0, g1, g2⟩ := HBX.out _ hB
            clear hB
            go_wp2_with fail
            refine (HB0.out _ (HBW.out.trans (HU1.out.mono HBW.out.size))).mono ?_
            rintro e w2 ⟨rfl, hB⟩
            have HU2 := Aside0.mk (HU1.out.trans (hB.mono HU1.out.size))
            clear g0 g1 g2 hB
            obtain ⟨g0, g1, g2⟩ := HBX.out _ HU2.out
            go_wp2_with fail
            refine (HB1.out _ (HBW.out.trans (HU2.out.mono HBW.out.size))).mono ?_
            rintro e w3 ⟨rfl, hB⟩
            have HU3 := Aside0.mk (HU2.out.trans (hB.mono HU2.out.size))
            clear g0 g1 g2 hB
            obtain ⟨g0, g1, g2⟩ := HBX.out _ HU3.out
            go_wp2_with fail
            refine (HB2.out _ (HBW.out.trans (HU3.out.mono HBW.out.size))).mono ?_
            rintro e w4 ⟨rfl, hB⟩
            have HU4 := Aside0.mk (HU3.out.trans (hB.mono HU3.out.size))
            clear g0 g1 g2 hB
            obtain ⟨g0, g1, g2⟩ := HBX.out _ HU4.out
            go_wp2_with fail
            refine (E1.out _ (HBW.out.trans (HU4.out.mono HBW.out.size))).mono ?_
            rintro e w5 ⟨rfl, hB⟩
            have HU5 := Aside0.mk (HU4.out.trans (hB.mono HU4.out.size))
            clear g0 g1 g2 hB
            obtain ⟨g0, g1, g2⟩ := HBX.out _ HU5.out
            go_wp2_with fail
            refine (E2.out _ (HBW.out.trans (HU5.out.mono HBW.out.size))).mono ?_
            rintro e w6 ⟨rfl, hB⟩
            have HU6 := Aside0.mk (HU5.out.trans (hB.mono HU5.out.size))
            clear g0 g1 g2 hB
            obtain ⟨g0, g1, g2⟩ := HBX.out _ HU6.out
            go_wp2
            have HG : Aside0 _ := ⟨HU6.out⟩
            refine wp_region_quiet (C := fun w' => Below w6.heap.size w6 w') (by kernel_rfl) (by kernel_rfl) ⟨rfl, rfl, rfl, Nat.le_refl _, fun _ _ => rfl⟩ ?_
            clear g0 g1 g2
            have HV := Aside0.mk (fun (w' : World) (hw' : Below w6.heap.size w6 w') => HU6.out.trans (hw'.mono HU6.out.size))
            iterate 22
              refine wpQuiet_step (fun K hK => ?_)
              rw [if_pos (by rfl)]
              first
                | (apply quiet_val
                   intro w' hw'
                   obtain ⟨g0, g1, g2⟩ := HBX.out w' (HV.out w' hw')
                   go_simp
                   try exact rfl
                   refine hK _ ?_)
                | (apply quiet_call
                   intro w' hw'
                   go_simp
                   first | exact rfl | exact ⟨rfl, rfl⟩
                   intro w' hw'
                   with_reducible first
                     | exact (E1.out w' (HBW.out.trans ((HV.out w' hw').mono HBW.out.size))).mono fun e w'' ⟨he, hb⟩ => ⟨he, hw'.trans (hb.mono hw'.size)⟩
                     | exact (E4.out w' (HBW.out.trans ((HV.out w' hw').mono HBW.out.size))).mono fun e w'' ⟨he, hb⟩ => ⟨he, hw'.trans (hb.mono hw'.size)⟩
                     | exact (E5.out w' (HBW.out.trans ((HV.out w' hw').mono HBW.out.size))).mono fun e w'' ⟨he, hb⟩ => ⟨he, hw'.trans (hb.mono hw'.size)⟩
                     | exact (E6.out w' (HBW.out.trans ((HV.out w' hw').mono HBW.out.size))).mono fun e w'' ⟨he, hb⟩ => ⟨he, hw'.trans (hb.mono hw'.size)⟩
                   refine hK _ ?_)
              clear hK K
              simp only [Act.put, List.setIfInBounds_toArray, List.set_cons_zero, List.set_cons_succ]
            refine wpQuiet_nil ?_
            intro wq hBq
            have HBq := Aside0.mk hBq
            clear hBq
            go_wp2
            go_ret
            exact ⟨rfl, HBW.out.trans ((HU6.out.trans (HBq.out.mono HU6.out.size)).mono HBW.out.size)⟩
          · obtain rfl := h3 rfl rfl
            clear h3
            go_enter Tryd.func7, Tryd.ntmps7
            go_wp2_with fail
            refine HW.out.mono ?_
            rintro e w1 ⟨rfl, hB⟩
            have HU1 := Aside0.mk hB
            obtain ⟨g0, g1, g2⟩ := HBX.out _ hB
            clear hB
            go_wp2_with fail
            refine (HB0.out _ (HBW.out.trans (HU1.out.mono HBW.out.size))).mono ?_
            rintro e w2 ⟨rfl, hB⟩
            have HU2 := Aside0.mk (HU1.out.trans (hB.mono HU1.out.size))
            clear g0 g1 g2 hB
            obtain ⟨g0, g1, g2⟩ := HBX.out _ HU2.out
            go_wp2_with fail
            refine (HB1.out _ (HBW.out.trans (HU2.out.mono HBW.out.size))).mono ?_
            rintro e w3 ⟨rfl, hB⟩
            have HU3 := Aside0.mk (HU2.out.trans (hB.mono HU2.out.size))
            clear g0 g1 g2 hB
            obtain ⟨g0, g1, g2⟩ := HBX.out _ HU3.out
            go_wp2_with fail
            refine (HB2.out _ (HBW.out.trans (HU3.out.mono HBW.out.size))).mono ?_
            rintro e w4 ⟨rfl, hB⟩
            have HU4 := Aside0.mk (HU3.out.trans (hB.mono HU3.out.size))
            clear g0 g1 g2 hB
            obtain ⟨g0, g1, g2⟩ := HBX.out _ HU4.out
            go_wp2_with fail
            refine (E1.out _ (HBW.out.trans (HU4.out.mono HBW.out.size))).mono ?_
            rintro e w5 ⟨rfl, hB⟩
            have HU5 := Aside0.mk (HU4.out.trans (hB.mono HU4.out.size))
            clear g0 g1 g2 hB
            obtain ⟨g0, g1, g2⟩ := HBX.out _ HU5.out
            go_wp2_with fail
            refine (E2.out _ (HBW.out.trans (HU5.out.mono HBW.out.size))).mono ?_
            rintro e w6 ⟨rfl, hB⟩
            have HU6 := Aside0.mk (HU5.out.trans (hB.mono HU5.out.size))
            clear g0 g1 g2 hB
            obtain ⟨g0, g1, g2⟩ := HBX.out _ HU6.out
            go_wp2_with fail
            refine (E3.out _ (HBW.out.trans (HU6.out.mono HBW.out.size))).mono ?_
            rintro e w7 ⟨rfl, hB⟩
            have HU7 := Aside0.mk (HU6.out.trans (hB.mono HU6.out.size))
            clear g0 g1 g2 hB
            obtain ⟨g0, g1, g2⟩ := HBX.out _ HU7.out
            go_wp2
            have HG : Aside0 _ := ⟨HU7.out⟩
            refine wp_region_quiet (C := fun w' => Below w7.heap.size w7 w') (by kernel_rfl) (by kernel_rfl) ⟨rfl, rfl, rfl, Nat.le_refl _, fun _ _ => rfl⟩ ?_
            clear g0 g1 g2
            have HV := Aside0.mk (fun (w' : World) (hw' : Below w7.heap.size w7 w') => HU7.out.trans (hw'.mono HU7.out.size))
            iterate 22
              refine wpQuiet_step (fun K hK => ?_)
              rw [if_pos (by rfl)]
              first
                | (apply quiet_val
                   intro w' hw'
                   obtain ⟨g0, g1, g2⟩ := HBX.out w' (HV.out w' hw')
                   go_simp
                   try exact rfl
                   refine hK _ ?_)
                | (apply quiet_call
                   intro w' hw'
                   go_simp
                   first | exact rfl | exact ⟨rfl, rfl⟩
                   intro w' hw'
                   with_reducible first
                     | exact (E1.out w' (HBW.out.trans ((HV.out w' hw').mono HBW.out.size))).mono fun e w'' ⟨he, hb⟩ => ⟨he, hw'.trans (hb.mono hw'.size)⟩
                     | exact (E4.out w' (HBW.out.trans ((HV.out w' hw').mono HBW.out.size))).mono fun e w'' ⟨he, hb⟩ => ⟨he, hw'.trans (hb.mono hw'.size)⟩
                     | exact (E5.out w' (HBW.out.trans ((HV.out w' hw').mono HBW.out.size))).mono fun e w'' ⟨he, hb⟩ => ⟨he, hw'.trans (hb.mono hw'.size)⟩
                     | exact (E6.out w' (HBW.out.trans ((HV.out w' hw').mono HBW.out.size))).mono fun e w'' ⟨he, hb⟩ => ⟨he, hw'.trans (hb.mono hw'.size)⟩
                   refine hK _ ?_)
              clear hK K
              simp only [Act.put, List.setIfInBounds_toArray, List.set_cons_zero, List.set_cons_succ]
            refine wpQuiet_nil ?_
            intro wq hBq
            have HBq := Aside0.mk hBq
            clear hBq
            go_wp2
            go_ret
            exact ⟨rfl, HBW.out.trans ((HU7.out.trans (HBq.out.mono HU7.out.size)).mono HBW.out.size)⟩
end Go.Proofs.YtmdbbfoejmakdaaDoor.Ha

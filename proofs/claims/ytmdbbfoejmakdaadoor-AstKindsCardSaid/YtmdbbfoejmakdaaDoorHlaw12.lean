/-
  The laws AstMeasures and AstKinds, walked: they return true. By this session, out of its own program (wip/gen).
-/
import Derived.Test.YtmdbbfoejmakdaaDoorHawake
import Derived.Test.YtmdbbfoejmakdaaDoorHpis
import Derived.Test.YtmdbbfoejmakdaaDoorHopen
namespace Go.Proofs.YtmdbbfoejmakdaaDoor.Ha
open Go.RowKit Go.Proofs.YtmdbbfoejmakdaaDoorW.PrintWords Go.Proofs.YtmdbbfoejmakdaaDoorW.PrintLast Go.Proofs.YtmdbbfoejmakdaaDoorW.PrintMore Go.Proofs.YtmdbbfoejmakdaaDoor.P
set_option linter.unusedVariables false
set_option linter.unusedSimpArgs false
open Hl
theorem quiet_val {P : Program} {o : Oper} {a : Act} {C : World → Prop} {K : Act → Prop} {v : Value} (hrun : ∀ w, C w → (execOp a.eval o).run P w = .ok (.value v) w) (hk : K (a.put o.dst v)) : o.quiet P a C K :=
  ⟨v, fun w hw => by unfold Oper.quietAt; rw [hrun w hw]; exact ⟨rfl, rfl⟩, hk⟩
theorem quiet_call {P : Program} {o : Oper} {a : Act} {C : World → Prop} {K : Act → Prop} {v : Value} {f : FuncId} {args : Array Value} (hrun : ∀ w, C w → (execOp a.eval o).run P w = .ok (.enter f args) w)
    (hc : ∀ w, C w → Calls P f args w fun e w'' => e = .returned v ∧ C w'') (hk : K (a.put o.dst v)) : o.quiet P a C K :=
  ⟨v, fun w hw => by unfold Oper.quietAt; rw [hrun w hw]; exact ⟨rfl, hc w hw⟩, hk⟩
theorem big1 {x : Nd} (h : Ev fun k => ontimelaw12_Big.f k x.f0 x.f1 x.f2 x.f3 = some 1) {A : Option Addr} {c : Nat} {w : World} (hA : At w x A c) : Calls Tryd.prog 22 #[nodeV x A c] w fun e w' => e = .returned (.int .i64 1) ∧ Below w.heap.size w w' := by
  obtain ⟨k, hk⟩ := h.ex
  exact ontimelaw12_Big.calls k x.f0 x.f1 x.f2 A c x.f3 1 w hA.1 hA.2 hk
theorem big0 {x : Nd} (h : Ev fun k => ontimelaw12_Big.f k x.f0 x.f1 x.f2 x.f3 = some 0) {A : Option Addr} {c : Nat} {w : World} (hA : At w x A c) : Calls Tryd.prog 22 #[nodeV x A c] w fun e w' => e = .returned (.int .i64 0) ∧ Below w.heap.size w w' := by
  obtain ⟨k, hk⟩ := h.ex
  exact ontimelaw12_Big.calls k x.f0 x.f1 x.f2 A c x.f3 0 w hA.1 hA.2 hk
set_option maxHeartbeats 4000000 in
set_option maxRecDepth 100000 in
theorem lawMeasures (x : Nd) (A : Option Addr) (c : Nat) (w : World) (hT : TabOk w) (hok : okN x) (hA : At w x A c) : Calls Tryd.prog 4 #[nodeV x A c] w fun e w' => e = .returned (.bool true) ∧ Below w.heap.size w w' := by
  have HW := Aside0.mk (awake (w.alloc (.cells #[.int .u8 x.f0, .int .i64 x.f1, .string x.f2, .slice A x.f3.length c] 24)) (hT.below ((Below.refl _ w).alloc (Nat.le_refl _) _)))
  have HC0 := Aside0.mk (box_new w (#[.int .u8 x.f0, .int .i64 x.f1, .string x.f2, .slice A x.f3.length c]) 24)
  have HA := Aside0.mk hA
  have HT := Aside0.mk hT
  have hz0 : w.heap.size < (w.alloc (.cells #[.int .u8 x.f0, .int .i64 x.f1, .string x.f2, .slice A x.f3.length c] 24)).heap.size := by simp
  rcases big_ok x with hb | ⟨hb, hs, hd⟩
  · have HB := Aside0.mk (fun w' (h : Below w.heap.size w w') => big1 hb (hA.below h))
    clear hb hA hT hok
    go_enter Tryd.func4, Tryd.ntmps4
    go_wp2_with fail
    refine HW.out.mono ?_
    rintro e w1 ⟨rfl, hB1⟩
    have hc1 := box_keep hB1 hz0 HC0.out
    have HB1 := Aside0.mk hB1
    have HU1 : Aside0 (Below w.heap.size w w1) := ⟨((Below.refl _ w).alloc (Nat.le_refl _) _).trans (hB1.mono (by simp))⟩
    clear hB1
    go_wp2_with fail
    refine (HB.out _ HU1.out).mono ?_
    rintro e w2 ⟨rfl, hB2⟩
    have HB2 := Aside0.mk hB2
    clear hB2
    go_wp2
    go_ret
    exact ⟨rfl, HU1.out.trans (HB2.out.mono HU1.out.size)⟩
  · have HB := Aside0.mk (fun w' (h : Below w.heap.size w w') => big0 hb (hA.below h))
    have HF0 : Aside0 (∀ w', Below w.heap.size w w' → Calls Tryd.prog 29 #[nodeV x A c] w' fun e w'' => e = .returned (.int .i64 (szN x)) ∧ Below w'.heap.size w' w'') := ⟨fun w' h => by
      exact size_n _ x A c w' (Nat.le_refl _) (by omega) (hA.below h).1 (hA.below h).2⟩
    have HF1 : Aside0 (∀ w', Below w.heap.size w w' → Calls Tryd.prog 30 #[nodeV x A c] w' fun e w'' => e = .returned (.int .i64 (szN x)) ∧ Below w'.heap.size w' w'') := ⟨fun w' h => by
      obtain ⟨k, hk⟩ := (refSize _ x (Nat.le_refl _) (by omega)).ex; exact ontimeref12_Size.calls k x.f0 x.f1 x.f2 A c x.f3 _ w' (hA.below h).1 (hA.below h).2 hk⟩
    have HF2 : Aside0 (∀ w', Below w.heap.size w w' → Calls Tryd.prog 31 #[nodeV x A c] w' fun e w'' => e = .returned (.int .i64 (dpN x)) ∧ Below w'.heap.size w' w'') := ⟨fun w' h => by
      exact depth_n _ x A c w' (Nat.le_refl _) (by omega) (hA.below h).1 (hA.below h).2⟩
    have HF3 : Aside0 (∀ w', Below w.heap.size w w' → Calls Tryd.prog 32 #[nodeV x A c] w' fun e w'' => e = .returned (.int .i64 (dpN x)) ∧ Below w'.heap.size w' w'') := ⟨fun w' h => by
      obtain ⟨k, hk⟩ := (refDepth _ x (Nat.le_refl _) (by omega)).ex; exact ontimeref12_Depth.calls k x.f0 x.f1 x.f2 A c x.f3 _ w' (hA.below h).1 (hA.below h).2 hk⟩
    have HF4 : Aside0 (∀ w', Below w.heap.size w w' → Calls Tryd.prog 33 #[nodeV x A c] w' fun e w'' => e = .returned (.int .i64 (neN x)) ∧ Below w'.heap.size w' w'') := ⟨fun w' h => by
      exact nest_n _ x A c w' (Nat.le_refl _) (by omega) (hA.below h).1 (hA.below h).2⟩
    have HF5 : Aside0 (∀ w', Below w.heap.size w w' → Calls Tryd.prog 34 #[nodeV x A c] w' fun e w'' => e = .returned (.int .i64 (neN x)) ∧ Below w'.heap.size w' w'') := ⟨fun w' h => by
      obtain ⟨k, hk⟩ := (refNest _ x (Nat.le_refl _) (by omega)).ex; exact ontimeref12_Nest.calls k x.f0 x.f1 x.f2 A c x.f3 _ w' (hA.below h).1 (hA.below h).2 hk⟩
    clear hb hs hd hA hT hok
    generalize ((szN x : Nat) : Int) = v1 at *
    generalize ((dpN x : Nat) : Int) = v2 at *
    generalize ((neN x : Nat) : Int) = v3 at *
    go_enter Tryd.func4, Tryd.ntmps4
    go_wp2_with fail
    refine HW.out.mono ?_
    rintro e w1 ⟨rfl, hB1⟩
    have hc1 := box_keep hB1 hz0 HC0.out
    have HU1 : Aside0 (Below w.heap.size w w1) := ⟨((Below.refl _ w).alloc (Nat.le_refl _) _).trans (hB1.mono (by simp))⟩
    have hz1 : w.heap.size < w1.heap.size := by have := hB1.size; omega
    clear hB1
    go_wp2_with fail
    refine (HB.out _ HU1.out).mono ?_
    rintro e w2 ⟨rfl, hB2⟩
    have hc2 := box_keep hB2 hz1 hc1
    have HC2 := Aside0.mk hc2
    have HU2 : Aside0 (Below w.heap.size w w2) := ⟨HU1.out.trans (hB2.mono HU1.out.size)⟩
    have hz2 : w.heap.size < w2.heap.size := by have := hB2.size; omega
    clear hB2 hc1 hc2
    go_wp2
    refine wp_region_quiet (C := fun w' => Below w2.heap.size w2 w') (by kernel_rfl) (by kernel_rfl) ⟨rfl, rfl, rfl, Nat.le_refl _, fun _ _ => rfl⟩ ?_
    have HK := Aside0.mk (fun (w' : World) (hw' : Below w2.heap.size w2 w') => box_keep hw' hz2 HC2.out)
    have HV := Aside0.mk (fun (w' : World) (hw' : Below w2.heap.size w2 w') => HU2.out.trans (hw'.mono HU2.out.size))
    iterate 20
      refine wpQuiet_step (fun K hK => ?_)
      rw [if_pos (by rfl)]
      first
        | (apply quiet_val
           intro w' hw'
           have hc := HK.out w' hw'
           go_simp
           try exact rfl
           refine hK _ ?_)
        | (apply quiet_call
           intro w' hw'
           go_simp
           first | exact rfl | exact ⟨rfl, rfl⟩
           intro w' hw'
           with_reducible first
             | exact (HF0.out w' (HV.out w' hw')).mono fun e w'' ⟨he, hb⟩ => ⟨he, hw'.trans (hb.mono hw'.size)⟩
             | exact (HF1.out w' (HV.out w' hw')).mono fun e w'' ⟨he, hb⟩ => ⟨he, hw'.trans (hb.mono hw'.size)⟩
             | exact (HF2.out w' (HV.out w' hw')).mono fun e w'' ⟨he, hb⟩ => ⟨he, hw'.trans (hb.mono hw'.size)⟩
             | exact (HF3.out w' (HV.out w' hw')).mono fun e w'' ⟨he, hb⟩ => ⟨he, hw'.trans (hb.mono hw'.size)⟩
             | exact (HF4.out w' (HV.out w' hw')).mono fun e w'' ⟨he, hb⟩ => ⟨he, hw'.trans (hb.mono hw'.size)⟩
             | exact (HF5.out w' (HV.out w' hw')).mono fun e w'' ⟨he, hb⟩ => ⟨he, hw'.trans (hb.mono hw'.size)⟩
           refine hK _ ?_)
      clear hK K
      simp only [Act.put, List.setIfInBounds_toArray, List.set_cons_zero, List.set_cons_succ]
    refine wpQuiet_nil ?_
    intro w3 hB3
    have HB3 := Aside0.mk hB3
    clear hB3
    go_wp2
    go_ret
    exact ⟨rfl, HU2.out.trans (HB3.out.mono HU2.out.size)⟩
set_option maxHeartbeats 4000000 in
set_option maxRecDepth 100000 in
theorem lawKinds (x : Nd) (A : Option Addr) (c : Nat) (w : World) (hT : TabOk w) (hok : okN x) (hA : At w x A c) : Calls Tryd.prog 3 #[nodeV x A c] w fun e w' => e = .returned (.bool true) ∧ Below w.heap.size w w' := by
  have HW := Aside0.mk (awake (w.alloc (.cells #[.int .u8 x.f0, .int .i64 x.f1, .string x.f2, .slice A x.f3.length c] 24)) (hT.below ((Below.refl _ w).alloc (Nat.le_refl _) _)))
  have HC0 := Aside0.mk (box_new w (#[.int .u8 x.f0, .int .i64 x.f1, .string x.f2, .slice A x.f3.length c]) 24)
  have HA := Aside0.mk hA
  have HT := Aside0.mk hT
  have hz0 : w.heap.size < (w.alloc (.cells #[.int .u8 x.f0, .int .i64 x.f1, .string x.f2, .slice A x.f3.length c] 24)).heap.size := by simp
  rcases big_ok x with hb | ⟨hb, hs, hd⟩
  · have HB := Aside0.mk (fun w' (h : Below w.heap.size w w') => big1 hb (hA.below h))
    clear hb hA hT hok
    go_enter Tryd.func3, Tryd.ntmps3
    go_wp2_with fail
    refine HW.out.mono ?_
    rintro e w1 ⟨rfl, hB1⟩
    have hc1 := box_keep hB1 hz0 HC0.out
    have HB1 := Aside0.mk hB1
    have HU1 : Aside0 (Below w.heap.size w w1) := ⟨((Below.refl _ w).alloc (Nat.le_refl _) _).trans (hB1.mono (by simp))⟩
    clear hB1
    go_wp2_with fail
    refine (HB.out _ HU1.out).mono ?_
    rintro e w2 ⟨rfl, hB2⟩
    have HB2 := Aside0.mk hB2
    clear hB2
    go_wp2
    go_ret
    exact ⟨rfl, HU1.out.trans (HB2.out.mono HU1.out.size)⟩
  · have HB := Aside0.mk (fun w' (h : Below w.heap.size w w') => big0 hb (hA.below h))
    have HF0 : Aside0 (∀ w', Below w.heap.size w w' → Calls Tryd.prog 23 #[nodeV x A c] w' fun e w'' => e = .returned (.bool (isN x 1)) ∧ Below w'.heap.size w' w'') := ⟨fun w' h => by
      exact isExpr x A c w' hok (hT.below h) (hA.below h)⟩
    have HF1 : Aside0 (∀ w', Below w.heap.size w w' → Calls Tryd.prog 24 #[nodeV x A c] w' fun e w'' => e = .returned (.bool (isN x 1)) ∧ Below w'.heap.size w' w'') := ⟨fun w' h => by
      obtain ⟨k, hk⟩ := (refExpr x (by omega) hok).ex; exact ontimeref12_Expr.calls k x.f0 x.f1 x.f2 A c x.f3 _ w' (hA.below h).1 (hA.below h).2 hk⟩
    have HF2 : Aside0 (∀ w', Below w.heap.size w w' → Calls Tryd.prog 25 #[nodeV x A c] w' fun e w'' => e = .returned (.bool (isN x 4)) ∧ Below w'.heap.size w' w'') := ⟨fun w' h => by
      exact isStmt x A c w' hok (hT.below h) (hA.below h)⟩
    have HF3 : Aside0 (∀ w', Below w.heap.size w w' → Calls Tryd.prog 26 #[nodeV x A c] w' fun e w'' => e = .returned (.bool (isN x 4)) ∧ Below w'.heap.size w' w'') := ⟨fun w' h => by
      obtain ⟨k, hk⟩ := (refStmt x (by omega) hok).ex; exact ontimeref12_Stmt.calls k x.f0 x.f1 x.f2 A c x.f3 _ w' (hA.below h).1 (hA.below h).2 hk⟩
    have HF4 : Aside0 (∀ w', Below w.heap.size w w' → Calls Tryd.prog 27 #[nodeV x A c] w' fun e w'' => e = .returned (.bool (isN x 8)) ∧ Below w'.heap.size w' w'') := ⟨fun w' h => by
      exact isBlock x A c w' hok (hT.below h) (hA.below h)⟩
    have HF5 : Aside0 (∀ w', Below w.heap.size w w' → Calls Tryd.prog 28 #[nodeV x A c] w' fun e w'' => e = .returned (.bool (isN x 8)) ∧ Below w'.heap.size w' w'') := ⟨fun w' h => by
      obtain ⟨k, hk⟩ := (refBlock x (by omega) hok).ex; exact ontimeref12_Block.calls k x.f0 x.f1 x.f2 A c x.f3 _ w' (hA.below h).1 (hA.below h).2 hk⟩
    clear hb hs hd hA hT hok
    generalize isN x 1 = v1 at *
    generalize isN x 4 = v2 at *
    generalize isN x 8 = v3 at *
    go_enter Tryd.func3, Tryd.ntmps3
    go_wp2_with fail
    refine HW.out.mono ?_
    rintro e w1 ⟨rfl, hB1⟩
    have hc1 := box_keep hB1 hz0 HC0.out
    have HU1 : Aside0 (Below w.heap.size w w1) := ⟨((Below.refl _ w).alloc (Nat.le_refl _) _).trans (hB1.mono (by simp))⟩
    have hz1 : w.heap.size < w1.heap.size := by have := hB1.size; omega
    clear hB1
    go_wp2_with fail
    refine (HB.out _ HU1.out).mono ?_
    rintro e w2 ⟨rfl, hB2⟩
    have hc2 := box_keep hB2 hz1 hc1
    have HC2 := Aside0.mk hc2
    have HU2 : Aside0 (Below w.heap.size w w2) := ⟨HU1.out.trans (hB2.mono HU1.out.size)⟩
    have hz2 : w.heap.size < w2.heap.size := by have := hB2.size; omega
    clear hB2 hc1 hc2
    go_wp2
    refine wp_region_quiet (C := fun w' => Below w2.heap.size w2 w') (by kernel_rfl) (by kernel_rfl) ⟨rfl, rfl, rfl, Nat.le_refl _, fun _ _ => rfl⟩ ?_
    have HK := Aside0.mk (fun (w' : World) (hw' : Below w2.heap.size w2 w') => box_keep hw' hz2 HC2.out)
    have HV := Aside0.mk (fun (w' : World) (hw' : Below w2.heap.size w2 w') => HU2.out.trans (hw'.mono HU2.out.size))
    iterate 20
      refine wpQuiet_step (fun K hK => ?_)
      rw [if_pos (by rfl)]
      first
        | (apply quiet_val
           intro w' hw'
           have hc := HK.out w' hw'
           go_simp
           try exact rfl
           refine hK _ ?_)
        | (apply quiet_call
           intro w' hw'
           go_simp
           first | exact rfl | exact ⟨rfl, rfl⟩
           intro w' hw'
           with_reducible first
             | exact (HF0.out w' (HV.out w' hw')).mono fun e w'' ⟨he, hb⟩ => ⟨he, hw'.trans (hb.mono hw'.size)⟩
             | exact (HF1.out w' (HV.out w' hw')).mono fun e w'' ⟨he, hb⟩ => ⟨he, hw'.trans (hb.mono hw'.size)⟩
             | exact (HF2.out w' (HV.out w' hw')).mono fun e w'' ⟨he, hb⟩ => ⟨he, hw'.trans (hb.mono hw'.size)⟩
             | exact (HF3.out w' (HV.out w' hw')).mono fun e w'' ⟨he, hb⟩ => ⟨he, hw'.trans (hb.mono hw'.size)⟩
             | exact (HF4.out w' (HV.out w' hw')).mono fun e w'' ⟨he, hb⟩ => ⟨he, hw'.trans (hb.mono hw'.size)⟩
             | exact (HF5.out w' (HV.out w' hw')).mono fun e w'' ⟨he, hb⟩ => ⟨he, hw'.trans (hb.mono hw'.size)⟩
           refine hK _ ?_)
      clear hK K
      simp only [Act.put, List.setIfInBounds_toArray, List.set_cons_zero, List.set_cons_succ]
    refine wpQuiet_nil ?_
    intro w3 hB3
    have HB3 := Aside0.mk hB3
    clear hB3
    go_wp2
    go_ret
    exact ⟨rfl, HU2.out.trans (HB3.out.mono HU2.out.size)⟩
end Go.Proofs.YtmdbbfoejmakdaaDoor.Ha

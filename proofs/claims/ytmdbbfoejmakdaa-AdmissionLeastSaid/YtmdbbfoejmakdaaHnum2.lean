/-
  The contracts of the functions that the three plain laws reach, part 2: Reload, Zone, Useful, Quanta and their references. By this session, out of its own program (wip/gen).
-/
import Derived.Test.YtmdbbfoejmakdaaHnum
import Derived.Test.YtmdbbfoejmakdaaWMore
namespace Go.Proofs.Ytmdbbfoejmakdaa.Hn
open Go.RowKit Go.Proofs.YtmdbbfoejmakdaaW.PrintWords Go.Proofs.YtmdbbfoejmakdaaW.PrintMore
open Go.Proofs.Ytmdbbfoejmakdaa.Hp
set_option linter.unusedVariables false
set_option linter.unusedSimpArgs false
attribute [local go_sem] max2_int min2_int max_two min_two max_three min_three

theorem quiet_val {P : Program} {o : Oper} {a : Act} {C : World → Prop} {K : Act → Prop} {v : Value} (hrun : ∀ w, C w → (execOp a.eval o).run P w = .ok (.value v) w) (hk : K (a.put o.dst v)) : o.quiet P a C K :=
  ⟨v, fun w hw => by unfold Oper.quietAt; rw [hrun w hw]; exact ⟨rfl, rfl⟩, hk⟩
theorem quiet_call {P : Program} {o : Oper} {a : Act} {C : World → Prop} {K : Act → Prop} {v : Value} {f : FuncId} {args : Array Value} (hrun : ∀ w, C w → (execOp a.eval o).run P w = .ok (.enter f args) w)
    (hc : ∀ w, C w → Calls P f args w fun e w'' => e = .returned v ∧ C w'') (hk : K (a.put o.dst v)) : o.quiet P a C K :=
  ⟨v, fun w hw => by unfold Oper.quietAt; rw [hrun w hw]; exact ⟨rfl, hc w hw⟩, hk⟩
theorem wrapEq (x : Int) : IntKind.i64.wrap x = wrap64 x := by rw [IntKind.wrap_i64]; unfold wrap64; omega
theorem w64 {x : Int} (h1 : -9223372036854775808 ≤ x) (h2 : x ≤ 9223372036854775807) : wrap64 x = x := by unfold wrap64; omega

def TrV (co sl tr : Int) : Int := (co - 1) * sl + tr - 1 + tr
def ReV (co sl tr is iw ds dw : Int) : Int := (is * iw + ds * dw) * TrV co sl tr
def MiV (co sl tr mu di ta ha : Int) : Int := 2 * TrV co sl tr + 1 + ha + mx (mx mu di) ta
def UsV (co sl tr mu di ta ha qu ke se : Int) : Int := qu - ke - mx (MiV co sl tr mu di ta ha) (co * se)

theorem bus_bounds {co sl tr : Int} (h : BusB co sl tr = true) : (1 ≤ co ∧ co ≤ 4 ∧ 1 ≤ tr ∧ tr ≤ sl ∧ sl ≤ 1000000) ∧ 0 ≤ (co - 1) * sl ∧ (co - 1) * sl ≤ 3000000 := by
  have hb : 1 ≤ co ∧ co ≤ 4 ∧ 1 ≤ tr ∧ tr ≤ sl ∧ sl ≤ 1000000 := by simp [BusB] at h; omega
  refine ⟨hb, ?_⟩
  obtain ⟨h1, h2, h3, h4, h5⟩ := hb
  have : co = 1 ∨ co = 2 ∨ co = 3 ∨ co = 4 := by omega
  rcases this with rfl | rfl | rfl | rfl <;> omega
theorem cac_bounds {s y l : Int} (h : CacB s y l = true) : (1 ≤ s ∧ s ≤ 64 ∧ 1 ≤ y ∧ y ≤ 8) ∧ 1 ≤ s * y ∧ s * y ≤ 512 := by
  have hb : 1 ≤ s ∧ s ≤ 64 ∧ 1 ≤ y ∧ y ≤ 8 := by simp [CacB, PowB] at h; omega
  refine ⟨hb, ?_⟩
  obtain ⟨h1, h2, h3, h4⟩ := hb
  have h5 := Int.mul_le_mul h2 h4 (by omega) (by omega)
  have h6 := Int.mul_le_mul h1 h3 (by omega) (by omega)
  omega
theorem pip_bounds {mu di ta ha : Int} (h : PipB mu di ta ha = true) : 0 ≤ mu ∧ mu ≤ 1000 ∧ 0 ≤ di ∧ di ≤ 1000 ∧ 0 ≤ ta ∧ ta ≤ 1000 ∧ 0 ≤ ha ∧ ha ≤ 1000 := by
  simp [PipB] at h; omega
theorem mac_parts (co sl tr mu di ta ha is iw il ds dw dl qu ke : Int) (h : MacB co sl tr mu di ta ha is iw il ds dw dl qu ke = true) : BusB co sl tr = true ∧ PipB mu di ta ha = true ∧ CacB is iw il = true ∧ CacB ds dw dl = true ∧ 1 ≤ qu ∧ qu ≤ 16777216 ∧ 0 ≤ ke ∧ ke ≤ qu := by
  simp [MacB] at h; obtain ⟨⟨⟨⟨⟨⟨⟨a, b⟩, c⟩, d⟩, e⟩, f⟩, g⟩, i⟩ := h; exact ⟨a, b, c, d, e, f, g, i⟩
theorem tr_bounds {co sl tr : Int} (h : BusB co sl tr = true) : 1 ≤ TrV co sl tr ∧ TrV co sl tr ≤ 5000000 := by
  obtain ⟨⟨b1, b2, b3, b4, b5⟩, b6, b7⟩ := bus_bounds h
  unfold TrV; omega
theorem re_bounds (co sl tr mu di ta ha is iw il ds dw dl qu ke : Int) (h : MacB co sl tr mu di ta ha is iw il ds dw dl qu ke = true) : 2 ≤ is * iw + ds * dw ∧ is * iw + ds * dw ≤ 1024 ∧ 2 ≤ ReV co sl tr is iw ds dw ∧ ReV co sl tr is iw ds dw ≤ 5120000000 := by
  obtain ⟨a, b, c, d, e⟩ := mac_parts co sl tr mu di ta ha is iw il ds dw dl qu ke h
  have h1 := tr_bounds a
  have h2 := (cac_bounds c).2
  have h3 := (cac_bounds d).2
  have h4 : 2 ≤ is * iw + ds * dw := by omega
  have h5 : is * iw + ds * dw ≤ 1024 := by omega
  unfold ReV
  have h6 := Int.mul_le_mul h5 h1.2 (by omega) (by omega)
  have h7 := Int.mul_le_mul h4 h1.1 (by omega) (by omega)
  omega
theorem mi_bounds (co sl tr mu di ta ha is iw il ds dw dl qu ke : Int) (h : MacB co sl tr mu di ta ha is iw il ds dw dl qu ke = true) : 0 ≤ MiV co sl tr mu di ta ha ∧ MiV co sl tr mu di ta ha ≤ 10002001 := by
  obtain ⟨a, b, c, d, e⟩ := mac_parts co sl tr mu di ta ha is iw il ds dw dl qu ke h
  have h1 := tr_bounds a
  have h2 := pip_bounds b
  unfold MiV mx
  (repeat' split) <;> omega
theorem zo_bounds (co sl tr mu di ta ha is iw il ds dw dl qu ke : Int) {se : Int} (h : MacB co sl tr mu di ta ha is iw il ds dw dl qu ke = true) (h0 : 0 ≤ se) (h1 : se ≤ 1099511627776) : 0 ≤ co * se ∧ co * se ≤ 4398046511104 := by
  obtain ⟨a, b, c, d, e⟩ := mac_parts co sl tr mu di ta ha is iw il ds dw dl qu ke h
  obtain ⟨⟨b1, b2, b3, b4, b5⟩, b6, b7⟩ := bus_bounds a
  have : co = 1 ∨ co = 2 ∨ co = 3 ∨ co = 4 := by omega
  rcases this with rfl | rfl | rfl | rfl <;> omega
theorem us_bounds (co sl tr mu di ta ha is iw il ds dw dl qu ke : Int) {se : Int} (h : MacB co sl tr mu di ta ha is iw il ds dw dl qu ke = true) (h0 : 0 ≤ se) (h1 : se ≤ 1099511627776) : -4398046511104 ≤ UsV co sl tr mu di ta ha qu ke se ∧ UsV co sl tr mu di ta ha qu ke se ≤ 16777216 := by
  have h2 := mi_bounds co sl tr mu di ta ha is iw il ds dw dl qu ke h
  have h3 := zo_bounds co sl tr mu di ta ha is iw il ds dw dl qu ke h h0 h1
  obtain ⟨a, b, c, d, e⟩ := mac_parts co sl tr mu di ta ha is iw il ds dw dl qu ke h
  unfold UsV mx
  split <;> omega

set_option maxHeartbeats 2000000 in
theorem maxWait (co sl tr mu di ta ha is iw il ds dw dl qu ke : Int) (h : BusB co sl tr = true) (w : World) : Calls Try.prog 27 #[.agg #[.int .i64 co, .int .i64 sl, .int .i64 tr, .int .i64 mu, .int .i64 di, .int .i64 ta, .int .i64 ha, .int .i64 is, .int .i64 iw, .int .i64 il, .int .i64 ds, .int .i64 dw, .int .i64 dl, .int .i64 qu, .int .i64 ke]] w fun e w' => e = .returned (.int .i64 ((co - 1) * sl + tr - 1)) ∧ Below w.heap.size w w' := by
  obtain ⟨⟨b1, b2, b3, b4, b5⟩, b6, b7⟩ := bus_bounds h
  have h1 := Aside0.mk (busValid co sl tr mu di ta ha is iw il ds dw dl qu ke)
  rw [h] at h1
  clear h
  go_enter Try.func27, Try.ntmps27
  go_wp2_with fail
  refine (h1.out _).mono ?_
  rintro e w1 ⟨rfl, hB1⟩
  have HB1 := Aside0.mk hB1
  have hc1 := box_keep hB1 (by simp) (box_new w _ _)
  have hz1 : w.heap.size < w1.heap.size := by have := hB1.size; simp at this; omega
  clear hB1
  go_wp2
  go_ret
  exact ⟨rfl, (((Below.refl w.heap.size w).alloc (Nat.le_refl _) _).trans (HB1.out.mono (by simp)))⟩

set_option maxHeartbeats 2000000 in
theorem maxTransfer (co sl tr mu di ta ha is iw il ds dw dl qu ke : Int) (h : BusB co sl tr = true) (w : World) : Calls Try.prog 18 #[.agg #[.int .i64 co, .int .i64 sl, .int .i64 tr, .int .i64 mu, .int .i64 di, .int .i64 ta, .int .i64 ha, .int .i64 is, .int .i64 iw, .int .i64 il, .int .i64 ds, .int .i64 dw, .int .i64 dl, .int .i64 qu, .int .i64 ke]] w fun e w' => e = .returned (.int .i64 (TrV co sl tr)) ∧ Below w.heap.size w w' := by
  have hT := Aside0.mk (tr_bounds h)
  have h1 := Aside0.mk (busValid co sl tr mu di ta ha is iw il ds dw dl qu ke)
  have h2 := Aside0.mk (maxWait co sl tr mu di ta ha is iw il ds dw dl qu ke h)
  rw [h] at h1
  clear h
  go_enter Try.func18, Try.ntmps18
  go_wp2_with fail
  refine (h1.out _).mono ?_
  rintro e w1 ⟨rfl, hB1⟩
  have HB1 := Aside0.mk hB1
  have hc1 := box_keep hB1 (by simp) (box_new w _ _)
  have hz1 : w.heap.size < w1.heap.size := by have := hB1.size; simp at this; omega
  clear hB1
  go_wp2
  have HC2 := Aside0.mk hc1
  clear hc1
  refine wp_region_quiet (C := fun w' => Below w1.heap.size w1 w') (by kernel_rfl) (by kernel_rfl) ⟨rfl, rfl, rfl, Nat.le_refl _, fun _ _ => rfl⟩ ?_
  have HK2 := Aside0.mk (fun (w' : World) (hw' : Below w1.heap.size w1 w') => box_keep hw' hz1 HC2.out)
  iterate 6
    refine wpQuiet_step (fun K hK => ?_)
    rw [if_pos (by rfl)]
    first
      | (apply quiet_val
         intro w' hw'
         have hc := HK2.out w' hw'
         go_simp
         try exact rfl
         refine hK _ ?_)
      | (apply quiet_call
         intro w' hw'
         go_simp
         first | exact rfl | exact ⟨rfl, rfl⟩
         intro w' hw'
         with_reducible first
             | exact (h2.out _).mono fun e w'' ⟨he, hb⟩ => ⟨he, hw'.trans (hb.mono hw'.size)⟩
         refine hK _ ?_)
    clear hK K
    simp only [Act.put, List.setIfInBounds_toArray, List.set_cons_zero, List.set_cons_succ]
  refine wpQuiet_nil ?_
  intro w2 hB2
  have HB2 := Aside0.mk hB2
  have hc2 := HK2.out _ hB2
  have hz2 : w.heap.size < w2.heap.size := by have := hB2.size; omega
  clear hB2 HK2 HC2
  go_wp2
  go_ret
  exact ⟨iret (by have := hT.out; unfold TrV at *; simp only [wrapEq]; unfold wrap64; omega), ((((Below.refl w.heap.size w).alloc (Nat.le_refl _) _).trans (HB1.out.mono (by simp))).trans (HB2.out.mono (by omega)))⟩

set_option maxHeartbeats 2000000 in
theorem flush (s y l : Int) (h : CacB s y l = true) (w : World) : Calls Try.prog 17 #[.agg #[.int .i64 s, .int .i64 y, .int .i64 l]] w fun e w' => e = .returned (.int .i64 (s * y)) ∧ Below w.heap.size w w' := by
  obtain ⟨⟨b1, b2, b3, b4⟩, b6, b7⟩ := cac_bounds h
  have h1 := Aside0.mk (cacheValid s y l)
  rw [h] at h1
  clear h
  go_enter Try.func17, Try.ntmps17
  go_wp2_with fail
  refine (h1.out _).mono ?_
  rintro e w1 ⟨rfl, hB1⟩
  have HB1 := Aside0.mk hB1
  have hc1 := box_keep hB1 (by simp) (box_new w _ _)
  have hz1 : w.heap.size < w1.heap.size := by have := hB1.size; simp at this; omega
  clear hB1
  go_wp2
  go_ret
  exact ⟨rfl, (((Below.refl w.heap.size w).alloc (Nat.le_refl _) _).trans (HB1.out.mono (by simp)))⟩

set_option maxHeartbeats 2000000 in
theorem reloadNo (co sl tr mu di ta ha is iw il ds dw dl qu ke : Int) (h : MacB co sl tr mu di ta ha is iw il ds dw dl qu ke = false) (w : World) : Calls Try.prog 8 #[.agg #[.int .i64 co, .int .i64 sl, .int .i64 tr, .int .i64 mu, .int .i64 di, .int .i64 ta, .int .i64 ha, .int .i64 is, .int .i64 iw, .int .i64 il, .int .i64 ds, .int .i64 dw, .int .i64 dl, .int .i64 qu, .int .i64 ke]] w fun e w' => e = .returned (.int .i64 0) ∧ Below w.heap.size w w' := by
  have h1 := Aside0.mk (machValid co sl tr mu di ta ha is iw il ds dw dl qu ke)
  rw [h] at h1
  clear h
  go_enter Try.func8, Try.ntmps8
  go_wp2_with fail
  refine (h1.out _).mono ?_
  rintro e w1 ⟨rfl, hB1⟩
  have HB1 := Aside0.mk hB1
  have hc1 := box_keep hB1 (by simp) (box_new w _ _)
  have hz1 : w.heap.size < w1.heap.size := by have := hB1.size; simp at this; omega
  clear hB1
  go_wp2
  go_ret
  exact ⟨rfl, (((Below.refl w.heap.size w).alloc (Nat.le_refl _) _).trans (HB1.out.mono (by simp)))⟩

set_option maxHeartbeats 2000000 in
theorem reload (co sl tr mu di ta ha is iw il ds dw dl qu ke : Int) (h : MacB co sl tr mu di ta ha is iw il ds dw dl qu ke = true) (w : World) : Calls Try.prog 8 #[.agg #[.int .i64 co, .int .i64 sl, .int .i64 tr, .int .i64 mu, .int .i64 di, .int .i64 ta, .int .i64 ha, .int .i64 is, .int .i64 iw, .int .i64 il, .int .i64 ds, .int .i64 dw, .int .i64 dl, .int .i64 qu, .int .i64 ke]] w fun e w' => e = .returned (.int .i64 (ReV co sl tr is iw ds dw)) ∧ Below w.heap.size w w' := by
  have hR := Aside0.mk (re_bounds co sl tr mu di ta ha is iw il ds dw dl qu ke h)
  obtain ⟨a, b, c, d, e⟩ := mac_parts co sl tr mu di ta ha is iw il ds dw dl qu ke h
  have h1 := Aside0.mk (machValid co sl tr mu di ta ha is iw il ds dw dl qu ke)
  have h2 := Aside0.mk (flush is iw il c)
  have h3 := Aside0.mk (flush ds dw dl d)
  have h4 := Aside0.mk (maxTransfer co sl tr mu di ta ha is iw il ds dw dl qu ke a)
  rw [h] at h1
  clear h a b c d e
  go_enter Try.func8, Try.ntmps8
  go_wp2_with fail
  refine (h1.out _).mono ?_
  rintro e w1 ⟨rfl, hB1⟩
  have HB1 := Aside0.mk hB1
  have hc1 := box_keep hB1 (by simp) (box_new w _ _)
  have hz1 : w.heap.size < w1.heap.size := by have := hB1.size; simp at this; omega
  clear hB1
  go_wp2
  have HC2 := Aside0.mk hc1
  clear hc1
  refine wp_region_quiet (C := fun w' => Below w1.heap.size w1 w') (by kernel_rfl) (by kernel_rfl) ⟨rfl, rfl, rfl, Nat.le_refl _, fun _ _ => rfl⟩ ?_
  have HK2 := Aside0.mk (fun (w' : World) (hw' : Below w1.heap.size w1 w') => box_keep hw' hz1 HC2.out)
  iterate 11
    refine wpQuiet_step (fun K hK => ?_)
    rw [if_pos (by rfl)]
    first
      | (apply quiet_val
         intro w' hw'
         have hc := HK2.out w' hw'
         go_simp
         try exact rfl
         refine hK _ ?_)
      | (apply quiet_call
         intro w' hw'
         go_simp
         first | exact rfl | exact ⟨rfl, rfl⟩
         intro w' hw'
         with_reducible first
             | exact (h2.out _).mono fun e w'' ⟨he, hb⟩ => ⟨he, hw'.trans (hb.mono hw'.size)⟩
             | exact (h3.out _).mono fun e w'' ⟨he, hb⟩ => ⟨he, hw'.trans (hb.mono hw'.size)⟩
             | exact (h4.out _).mono fun e w'' ⟨he, hb⟩ => ⟨he, hw'.trans (hb.mono hw'.size)⟩
         refine hK _ ?_)
    clear hK K
    simp only [Act.put, List.setIfInBounds_toArray, List.set_cons_zero, List.set_cons_succ]
  refine wpQuiet_nil ?_
  intro w2 hB2
  have HB2 := Aside0.mk hB2
  have hc2 := HK2.out _ hB2
  have hz2 : w.heap.size < w2.heap.size := by have := hB2.size; omega
  clear hB2 HK2 HC2
  go_wp2
  go_ret
  exact ⟨iret (by have := hR.out; unfold ReV at *; simp only [wrapEq]; rw [w64 (x := is * iw + ds * dw) (by omega) (by omega), w64 (by omega) (by omega)]), ((((Below.refl w.heap.size w).alloc (Nat.le_refl _) _).trans (HB1.out.mono (by simp))).trans (HB2.out.mono (by omega)))⟩

set_option maxHeartbeats 2000000 in
theorem zoneNo (co sl tr mu di ta ha is iw il ds dw dl qu ke : Int) (se : Int) (h : MacB co sl tr mu di ta ha is iw il ds dw dl qu ke = false) (w : World) : Calls Try.prog 9 #[.agg #[.int .i64 co, .int .i64 sl, .int .i64 tr, .int .i64 mu, .int .i64 di, .int .i64 ta, .int .i64 ha, .int .i64 is, .int .i64 iw, .int .i64 il, .int .i64 ds, .int .i64 dw, .int .i64 dl, .int .i64 qu, .int .i64 ke], .int .i64 se] w fun e w' => e = .returned (.int .i64 0) ∧ Below w.heap.size w w' := by
  have h1 := Aside0.mk (machValid co sl tr mu di ta ha is iw il ds dw dl qu ke)
  rw [h] at h1
  clear h
  go_enter Try.func9, Try.ntmps9
  go_wp2_with fail
  refine (h1.out _).mono ?_
  rintro e w1 ⟨rfl, hB1⟩
  have HB1 := Aside0.mk hB1
  have hc1 := box_keep hB1 (by simp) (box_new w _ _)
  have hz1 : w.heap.size < w1.heap.size := by have := hB1.size; simp at this; omega
  clear hB1
  go_wp2
  go_ret
  exact ⟨rfl, (((Below.refl w.heap.size w).alloc (Nat.le_refl _) _).trans (HB1.out.mono (by simp)))⟩

set_option maxHeartbeats 2000000 in
theorem zoneOut (co sl tr mu di ta ha is iw il ds dw dl qu ke : Int) (se : Int) (h : MacB co sl tr mu di ta ha is iw il ds dw dl qu ke = true) (hs : ¬ (0 ≤ se ∧ se ≤ 1099511627776)) (w : World) : Calls Try.prog 9 #[.agg #[.int .i64 co, .int .i64 sl, .int .i64 tr, .int .i64 mu, .int .i64 di, .int .i64 ta, .int .i64 ha, .int .i64 is, .int .i64 iw, .int .i64 il, .int .i64 ds, .int .i64 dw, .int .i64 dl, .int .i64 qu, .int .i64 ke], .int .i64 se] w fun e w' => e = .returned (.int .i64 0) ∧ Below w.heap.size w w' := by
  have h1 := Aside0.mk (machValid co sl tr mu di ta ha is iw il ds dw dl qu ke)
  have h2 := Aside0.mk (count se)
  rw [h] at h1
  rw [decide_eq_false hs] at h2
  clear h hs
  go_enter Try.func9, Try.ntmps9
  go_wp2_with fail
  refine (h1.out _).mono ?_
  rintro e w1 ⟨rfl, hB1⟩
  have HB1 := Aside0.mk hB1
  have hc1 := box_keep hB1 (by simp) (box_new w _ _)
  have hz1 : w.heap.size < w1.heap.size := by have := hB1.size; simp at this; omega
  clear hB1
  go_wp2_with fail
  refine (h2.out _).mono ?_
  rintro e w2 ⟨rfl, hB2⟩
  have HB2 := Aside0.mk hB2
  have hc2 := box_keep hB2 hz1 hc1
  have hz2 : w.heap.size < w2.heap.size := by have := hB2.size; omega
  clear hc1
  clear hB2
  go_wp2
  go_ret
  exact ⟨rfl, ((((Below.refl w.heap.size w).alloc (Nat.le_refl _) _).trans (HB1.out.mono (by simp))).trans (HB2.out.mono (by omega)))⟩

set_option maxHeartbeats 2000000 in
theorem zone (co sl tr mu di ta ha is iw il ds dw dl qu ke : Int) (se : Int) (h : MacB co sl tr mu di ta ha is iw il ds dw dl qu ke = true) (hs : 0 ≤ se ∧ se ≤ 1099511627776) (w : World) : Calls Try.prog 9 #[.agg #[.int .i64 co, .int .i64 sl, .int .i64 tr, .int .i64 mu, .int .i64 di, .int .i64 ta, .int .i64 ha, .int .i64 is, .int .i64 iw, .int .i64 il, .int .i64 ds, .int .i64 dw, .int .i64 dl, .int .i64 qu, .int .i64 ke], .int .i64 se] w fun e w' => e = .returned (.int .i64 (co * se)) ∧ Below w.heap.size w w' := by
  obtain ⟨z1, z2⟩ := zo_bounds co sl tr mu di ta ha is iw il ds dw dl qu ke h hs.1 hs.2
  have h1 := Aside0.mk (machValid co sl tr mu di ta ha is iw il ds dw dl qu ke)
  have h2 := Aside0.mk (count se)
  rw [h] at h1
  rw [decide_eq_true hs] at h2
  clear h hs
  go_enter Try.func9, Try.ntmps9
  go_wp2_with fail
  refine (h1.out _).mono ?_
  rintro e w1 ⟨rfl, hB1⟩
  have HB1 := Aside0.mk hB1
  have hc1 := box_keep hB1 (by simp) (box_new w _ _)
  have hz1 : w.heap.size < w1.heap.size := by have := hB1.size; simp at this; omega
  clear hB1
  go_wp2_with fail
  refine (h2.out _).mono ?_
  rintro e w2 ⟨rfl, hB2⟩
  have HB2 := Aside0.mk hB2
  have hc2 := box_keep hB2 hz1 hc1
  have hz2 : w.heap.size < w2.heap.size := by have := hB2.size; omega
  clear hc1
  clear hB2
  go_wp2
  go_ret
  exact ⟨rfl, ((((Below.refl w.heap.size w).alloc (Nat.le_refl _) _).trans (HB1.out.mono (by simp))).trans (HB2.out.mono (by omega)))⟩

set_option maxHeartbeats 2000000 in
theorem maxInstr (co sl tr mu di ta ha is iw il ds dw dl qu ke : Int) (h : MacB co sl tr mu di ta ha is iw il ds dw dl qu ke = true) (w : World) : Calls Try.prog 21 #[.agg #[.int .i64 co, .int .i64 sl, .int .i64 tr, .int .i64 mu, .int .i64 di, .int .i64 ta, .int .i64 ha, .int .i64 is, .int .i64 iw, .int .i64 il, .int .i64 ds, .int .i64 dw, .int .i64 dl, .int .i64 qu, .int .i64 ke]] w fun e w' => e = .returned (.int .i64 (MiV co sl tr mu di ta ha)) ∧ Below w.heap.size w w' := by
  have hM := Aside0.mk (mi_bounds co sl tr mu di ta ha is iw il ds dw dl qu ke h)
  obtain ⟨a, b, c, d, e⟩ := mac_parts co sl tr mu di ta ha is iw il ds dw dl qu ke h
  have hT := Aside0.mk (tr_bounds a)
  have hP := Aside0.mk (pip_bounds b)
  have h1 := Aside0.mk (machValid co sl tr mu di ta ha is iw il ds dw dl qu ke)
  have h4 := Aside0.mk (maxTransfer co sl tr mu di ta ha is iw il ds dw dl qu ke a)
  rw [h] at h1
  clear h a b c d e
  go_enter Try.func21, Try.ntmps21
  go_wp2_with fail
  refine (h1.out _).mono ?_
  rintro e w1 ⟨rfl, hB1⟩
  have HB1 := Aside0.mk hB1
  have hc1 := box_keep hB1 (by simp) (box_new w _ _)
  have hz1 : w.heap.size < w1.heap.size := by have := hB1.size; simp at this; omega
  clear hB1
  go_wp2
  have HC2 := Aside0.mk hc1
  clear hc1
  refine wp_region_quiet (C := fun w' => Below w1.heap.size w1 w') (by kernel_rfl) (by kernel_rfl) ⟨rfl, rfl, rfl, Nat.le_refl _, fun _ _ => rfl⟩ ?_
  have HK2 := Aside0.mk (fun (w' : World) (hw' : Below w1.heap.size w1 w') => box_keep hw' hz1 HC2.out)
  iterate 20
    refine wpQuiet_step (fun K hK => ?_)
    rw [if_pos (by rfl)]
    first
      | (apply quiet_val
         intro w' hw'
         have hc := HK2.out w' hw'
         go_simp
         try exact rfl
         refine hK _ ?_)
      | (apply quiet_call
         intro w' hw'
         go_simp
         first | exact rfl | exact ⟨rfl, rfl⟩
         intro w' hw'
         with_reducible first
             | exact (h4.out _).mono fun e w'' ⟨he, hb⟩ => ⟨he, hw'.trans (hb.mono hw'.size)⟩
         refine hK _ ?_)
    clear hK K
    simp only [Act.put, List.setIfInBounds_toArray, List.set_cons_zero, List.set_cons_succ]
  refine wpQuiet_nil ?_
  intro w2 hB2
  have HB2 := Aside0.mk hB2
  have hc2 := HK2.out _ hB2
  have hz2 : w.heap.size < w2.heap.size := by have := hB2.size; omega
  clear hB2 HK2 HC2
  go_wp2
  all_goals go_ret
  all_goals exact ⟨iret (by have := hM.out; have := hT.out; have := hP.out; unfold MiV mx at *; simp only [wrapEq]; rw [w64 (x := 2 * TrV co sl tr) (by omega) (by omega), w64 (x := 2 * TrV co sl tr + 1) (by omega) (by omega), w64 (x := 2 * TrV co sl tr + 1 + ha) (by omega) (by omega)]; unfold wrap64; (repeat' split) <;> omega), ((((Below.refl w.heap.size w).alloc (Nat.le_refl _) _).trans (HB1.out.mono (by simp))).trans (HB2.out.mono (by omega)))⟩

set_option maxHeartbeats 2000000 in
theorem usefulNo (co sl tr mu di ta ha is iw il ds dw dl qu ke : Int) (se : Int) (h : MacB co sl tr mu di ta ha is iw il ds dw dl qu ke = false) (w : World) : Calls Try.prog 10 #[.agg #[.int .i64 co, .int .i64 sl, .int .i64 tr, .int .i64 mu, .int .i64 di, .int .i64 ta, .int .i64 ha, .int .i64 is, .int .i64 iw, .int .i64 il, .int .i64 ds, .int .i64 dw, .int .i64 dl, .int .i64 qu, .int .i64 ke], .int .i64 se] w fun e w' => e = .returned (.int .i64 0) ∧ Below w.heap.size w w' := by
  have h1 := Aside0.mk (machValid co sl tr mu di ta ha is iw il ds dw dl qu ke)
  rw [h] at h1
  clear h
  go_enter Try.func10, Try.ntmps10
  go_wp2_with fail
  refine (h1.out _).mono ?_
  rintro e w1 ⟨rfl, hB1⟩
  have HB1 := Aside0.mk hB1
  have hc1 := box_keep hB1 (by simp) (box_new w _ _)
  have hz1 : w.heap.size < w1.heap.size := by have := hB1.size; simp at this; omega
  clear hB1
  go_wp2
  go_ret
  exact ⟨rfl, (((Below.refl w.heap.size w).alloc (Nat.le_refl _) _).trans (HB1.out.mono (by simp)))⟩

set_option maxHeartbeats 2000000 in
theorem usefulOut (co sl tr mu di ta ha is iw il ds dw dl qu ke : Int) (se : Int) (h : MacB co sl tr mu di ta ha is iw il ds dw dl qu ke = true) (hs : ¬ (0 ≤ se ∧ se ≤ 1099511627776)) (w : World) : Calls Try.prog 10 #[.agg #[.int .i64 co, .int .i64 sl, .int .i64 tr, .int .i64 mu, .int .i64 di, .int .i64 ta, .int .i64 ha, .int .i64 is, .int .i64 iw, .int .i64 il, .int .i64 ds, .int .i64 dw, .int .i64 dl, .int .i64 qu, .int .i64 ke], .int .i64 se] w fun e w' => e = .returned (.int .i64 0) ∧ Below w.heap.size w w' := by
  have h1 := Aside0.mk (machValid co sl tr mu di ta ha is iw il ds dw dl qu ke)
  have h2 := Aside0.mk (count se)
  rw [h] at h1
  rw [decide_eq_false hs] at h2
  clear h hs
  go_enter Try.func10, Try.ntmps10
  go_wp2_with fail
  refine (h1.out _).mono ?_
  rintro e w1 ⟨rfl, hB1⟩
  have HB1 := Aside0.mk hB1
  have hc1 := box_keep hB1 (by simp) (box_new w _ _)
  have hz1 : w.heap.size < w1.heap.size := by have := hB1.size; simp at this; omega
  clear hB1
  go_wp2_with fail
  refine (h2.out _).mono ?_
  rintro e w2 ⟨rfl, hB2⟩
  have HB2 := Aside0.mk hB2
  have hc2 := box_keep hB2 hz1 hc1
  have hz2 : w.heap.size < w2.heap.size := by have := hB2.size; omega
  clear hc1
  clear hB2
  go_wp2
  go_ret
  exact ⟨rfl, ((((Below.refl w.heap.size w).alloc (Nat.le_refl _) _).trans (HB1.out.mono (by simp))).trans (HB2.out.mono (by omega)))⟩

set_option maxHeartbeats 2000000 in
theorem useful (co sl tr mu di ta ha is iw il ds dw dl qu ke : Int) (se : Int) (h : MacB co sl tr mu di ta ha is iw il ds dw dl qu ke = true) (hs : 0 ≤ se ∧ se ≤ 1099511627776) (w : World) : Calls Try.prog 10 #[.agg #[.int .i64 co, .int .i64 sl, .int .i64 tr, .int .i64 mu, .int .i64 di, .int .i64 ta, .int .i64 ha, .int .i64 is, .int .i64 iw, .int .i64 il, .int .i64 ds, .int .i64 dw, .int .i64 dl, .int .i64 qu, .int .i64 ke], .int .i64 se] w fun e w' => e = .returned (.int .i64 (UsV co sl tr mu di ta ha qu ke se)) ∧ Below w.heap.size w w' := by
  have hU := Aside0.mk (us_bounds co sl tr mu di ta ha is iw il ds dw dl qu ke h hs.1 hs.2)
  have hM := Aside0.mk (mi_bounds co sl tr mu di ta ha is iw il ds dw dl qu ke h)
  have hZ := Aside0.mk (zo_bounds co sl tr mu di ta ha is iw il ds dw dl qu ke h hs.1 hs.2)
  have hQ := Aside0.mk (mac_parts co sl tr mu di ta ha is iw il ds dw dl qu ke h).2.2.2.2
  have h1 := Aside0.mk (machValid co sl tr mu di ta ha is iw il ds dw dl qu ke)
  have h2 := Aside0.mk (count se)
  have h3 := Aside0.mk (maxInstr co sl tr mu di ta ha is iw il ds dw dl qu ke h)
  have h4 := Aside0.mk (zone co sl tr mu di ta ha is iw il ds dw dl qu ke se h hs)
  rw [h] at h1
  rw [decide_eq_true hs] at h2
  clear h hs
  go_enter Try.func10, Try.ntmps10
  go_wp2_with fail
  refine (h1.out _).mono ?_
  rintro e w1 ⟨rfl, hB1⟩
  have HB1 := Aside0.mk hB1
  have hc1 := box_keep hB1 (by simp) (box_new w _ _)
  have hz1 : w.heap.size < w1.heap.size := by have := hB1.size; simp at this; omega
  clear hB1
  go_wp2_with fail
  refine (h2.out _).mono ?_
  rintro e w2 ⟨rfl, hB2⟩
  have HB2 := Aside0.mk hB2
  have hc2 := box_keep hB2 hz1 hc1
  have hz2 : w.heap.size < w2.heap.size := by have := hB2.size; omega
  clear hc1
  clear hB2
  go_wp2
  have HC3 := Aside0.mk hc2
  clear hc2
  refine wp_region_quiet (C := fun w' => Below w2.heap.size w2 w') (by kernel_rfl) (by kernel_rfl) ⟨rfl, rfl, rfl, Nat.le_refl _, fun _ _ => rfl⟩ ?_
  have HK3 := Aside0.mk (fun (w' : World) (hw' : Below w2.heap.size w2 w') => box_keep hw' hz2 HC3.out)
  iterate 13
    refine wpQuiet_step (fun K hK => ?_)
    rw [if_pos (by rfl)]
    first
      | (apply quiet_val
         intro w' hw'
         have hc := HK3.out w' hw'
         go_simp
         try exact rfl
         refine hK _ ?_)
      | (apply quiet_call
         intro w' hw'
         go_simp
         first | exact rfl | exact ⟨rfl, rfl⟩
         intro w' hw'
         with_reducible first
             | exact (h3.out _).mono fun e w'' ⟨he, hb⟩ => ⟨he, hw'.trans (hb.mono hw'.size)⟩
             | exact (h4.out _).mono fun e w'' ⟨he, hb⟩ => ⟨he, hw'.trans (hb.mono hw'.size)⟩
         refine hK _ ?_)
    clear hK K
    simp only [Act.put, List.setIfInBounds_toArray, List.set_cons_zero, List.set_cons_succ]
  refine wpQuiet_nil ?_
  intro w3 hB3
  have HB3 := Aside0.mk hB3
  have hc3 := HK3.out _ hB3
  have hz3 : w.heap.size < w3.heap.size := by have := hB3.size; omega
  clear hB3 HK3 HC3
  go_wp2
  all_goals go_ret
  all_goals exact ⟨iret (by have := hU.out; have := hM.out; have := hZ.out; have := hQ.out; unfold UsV at *; generalize MiV co sl tr mu di ta ha = M at *; generalize co * se = Z at *; unfold mx at *; simp only [wrapEq]; rw [w64 (x := qu - ke) (by omega) (by omega)]; unfold wrap64; (repeat' split) <;> omega), (((((Below.refl w.heap.size w).alloc (Nat.le_refl _) _).trans (HB1.out.mono (by simp))).trans (HB2.out.mono (by omega))).trans (HB3.out.mono (by omega)))⟩

end Go.Proofs.Ytmdbbfoejmakdaa.Hn

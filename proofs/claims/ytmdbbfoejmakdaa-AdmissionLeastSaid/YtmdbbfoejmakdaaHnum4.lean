/-
  The chapter's examples, and the three laws' walks. By this session, out of its own program (wip/gen).
-/
import Derived.Test.YtmdbbfoejmakdaaHnum3
namespace Go.Proofs.Ytmdbbfoejmakdaa.Hn
open Go.RowKit Go.Proofs.YtmdbbfoejmakdaaW.PrintWords Go.Proofs.YtmdbbfoejmakdaaW.PrintMore
open Go.Proofs.Ytmdbbfoejmakdaa.Hp
set_option linter.unusedVariables false
set_option linter.unusedSimpArgs false
attribute [local go_sem] max2_int min2_int max_two min_two max_three min_three
theorem sM : MacB 1 4 2 0 0 0 0 1 1 4 1 1 1 100 10 = true := by decide +kernel
theorem sU : UsV 1 4 2 0 0 0 0 100 10 0 = 83 := by decide +kernel
theorem sR : ReV 1 4 2 1 1 1 1 = 6 := by decide +kernel

set_option maxHeartbeats 2000000 in
theorem sample  (w : World) : Calls Try.prog 19 #[] w fun e w' => e = .returned (.agg #[.int .i64 1, .int .i64 4, .int .i64 2, .int .i64 0, .int .i64 0, .int .i64 0, .int .i64 0, .int .i64 1, .int .i64 1, .int .i64 4, .int .i64 1, .int .i64 1, .int .i64 1, .int .i64 100, .int .i64 10]) ∧ Below w.heap.size w w' := by
  go_enter Try.func19, Try.ntmps19
  go_wp2
  exact bodyPost_ret (v := .agg #[.int .i64 1, .int .i64 4, .int .i64 2, .int .i64 0, .int .i64 0, .int .i64 0, .int .i64 0, .int .i64 1, .int .i64 1, .int .i64 4, .int .i64 1, .int .i64 1, .int .i64 1, .int .i64 100, .int .i64 10]) (by simp [results, Try.results19, go_sem]) rfl ⟨rfl, (Below.refl _ _).alloc (Nat.le_refl _) _⟩
set_option maxHeartbeats 2000000 in
theorem sQuanta (cy q : Int) (hc : 0 ≤ cy ∧ cy ≤ 1099511627776) (hq : QuV 83 6 cy = q) (w : World) : Calls Try.prog 7 #[.agg #[.int .i64 1, .int .i64 4, .int .i64 2, .int .i64 0, .int .i64 0, .int .i64 0, .int .i64 0, .int .i64 1, .int .i64 1, .int .i64 4, .int .i64 1, .int .i64 1, .int .i64 1, .int .i64 100, .int .i64 10], .int .i64 cy, .int .i64 0] w fun e w' => e = .returned (.tuple #[.int .i64 (q), .int .i64 (0)]) ∧ Below w.heap.size w w' := by
  have h := quanta 1 4 2 0 0 0 0 1 1 4 1 1 1 100 10 cy 0 sM hc (by omega) (by rw [sU, sR]; omega) w
  rw [sU, sR, hq] at h
  exact h
set_option maxHeartbeats 2000000 in
theorem sReload  (w : World) : Calls Try.prog 8 #[.agg #[.int .i64 1, .int .i64 4, .int .i64 2, .int .i64 0, .int .i64 0, .int .i64 0, .int .i64 0, .int .i64 1, .int .i64 1, .int .i64 4, .int .i64 1, .int .i64 1, .int .i64 1, .int .i64 100, .int .i64 10]] w fun e w' => e = .returned (.int .i64 6) ∧ Below w.heap.size w w' := by
  have h := reload 1 4 2 0 0 0 0 1 1 4 1 1 1 100 10 sM w
  rw [sR] at h
  exact h
set_option maxHeartbeats 2000000 in
theorem sUseful  (w : World) : Calls Try.prog 10 #[.agg #[.int .i64 1, .int .i64 4, .int .i64 2, .int .i64 0, .int .i64 0, .int .i64 0, .int .i64 0, .int .i64 1, .int .i64 1, .int .i64 4, .int .i64 1, .int .i64 1, .int .i64 1, .int .i64 100, .int .i64 10], .int .i64 0] w fun e w' => e = .returned (.int .i64 83) ∧ Below w.heap.size w w' := by
  have h := useful 1 4 2 0 0 0 0 1 1 4 1 1 1 100 10 0 sM (by omega) w
  rw [sU] at h
  exact h
set_option maxHeartbeats 2000000 in
theorem sZone  (w : World) : Calls Try.prog 9 #[.agg #[.int .i64 1, .int .i64 4, .int .i64 2, .int .i64 0, .int .i64 0, .int .i64 0, .int .i64 0, .int .i64 1, .int .i64 1, .int .i64 4, .int .i64 1, .int .i64 1, .int .i64 1, .int .i64 100, .int .i64 10], .int .i64 4] w fun e w' => e = .returned (.int .i64 4) ∧ Below w.heap.size w w' := by
  exact zone 1 4 2 0 0 0 0 1 1 4 1 1 1 100 10 4 sM (by omega) w
set_option maxHeartbeats 2000000 in
theorem awake  (w : World) : Calls Try.prog 6 #[] w fun e w' => e = .returned (.bool true) ∧ Below w.heap.size w w' := by
  have h0 := Aside0.mk sample
  have h1 := Aside0.mk (sQuanta 83 1 (by omega) (by decide +kernel))
  have h2 := Aside0.mk (sQuanta 84 2 (by omega) (by decide +kernel))
  have h3 := Aside0.mk (sQuanta 160 2 (by omega) (by decide +kernel))
  have h4 := Aside0.mk (sQuanta 161 3 (by omega) (by decide +kernel))
  have h5 := Aside0.mk sReload
  have h6 := Aside0.mk sUseful
  have h7 := Aside0.mk sZone
  go_enter Try.func6, Try.ntmps6
  go_wp2_with fail
  refine (h0.out _).mono ?_
  rintro e w1 ⟨rfl, hB1⟩
  have HB1 := Aside0.mk hB1
  clear hB1
  go_wp2_with fail
  refine (h1.out _).mono ?_
  rintro e w2 ⟨rfl, hB2⟩
  have HB2 := Aside0.mk hB2
  clear hB2
  go_wp2_with fail
  refine (h0.out _).mono ?_
  rintro e w3 ⟨rfl, hB3⟩
  have HB3 := Aside0.mk hB3
  clear hB3
  go_wp2_with fail
  refine (h2.out _).mono ?_
  rintro e w4 ⟨rfl, hB4⟩
  have HB4 := Aside0.mk hB4
  clear hB4
  go_wp2_with fail
  refine (h0.out _).mono ?_
  rintro e w5 ⟨rfl, hB5⟩
  have HB5 := Aside0.mk hB5
  clear hB5
  go_wp2_with fail
  refine (h3.out _).mono ?_
  rintro e w6 ⟨rfl, hB6⟩
  have HB6 := Aside0.mk hB6
  clear hB6
  go_wp2_with fail
  refine (h0.out _).mono ?_
  rintro e w7 ⟨rfl, hB7⟩
  have HB7 := Aside0.mk hB7
  clear hB7
  go_wp2_with fail
  refine (h4.out _).mono ?_
  rintro e w8 ⟨rfl, hB8⟩
  have HB8 := Aside0.mk hB8
  clear hB8
  go_wp2_with fail
  refine (h0.out _).mono ?_
  rintro e w9 ⟨rfl, hB9⟩
  have HB9 := Aside0.mk hB9
  clear hB9
  go_wp2_with fail
  refine (h5.out _).mono ?_
  rintro e w10 ⟨rfl, hB10⟩
  have HB10 := Aside0.mk hB10
  clear hB10
  go_wp2_with fail
  refine (h0.out _).mono ?_
  rintro e w11 ⟨rfl, hB11⟩
  have HB11 := Aside0.mk hB11
  clear hB11
  go_wp2_with fail
  refine (h6.out _).mono ?_
  rintro e w12 ⟨rfl, hB12⟩
  have HB12 := Aside0.mk hB12
  clear hB12
  go_wp2_with fail
  refine (h0.out _).mono ?_
  rintro e w13 ⟨rfl, hB13⟩
  have HB13 := Aside0.mk hB13
  clear hB13
  go_wp2_with fail
  refine (h7.out _).mono ?_
  rintro e w14 ⟨rfl, hB14⟩
  have HB14 := Aside0.mk hB14
  clear hB14
  go_wp2
  go_ret
  exact ⟨rfl, (((((((((((((((Below.refl w.heap.size w).trans (HB1.out.mono (by omega))).trans (HB2.out.mono (by have := HB1.out.size; omega))).trans (HB3.out.mono (by have := HB1.out.size; have := HB2.out.size; omega))).trans (HB4.out.mono (by have := HB1.out.size; have := HB2.out.size; have := HB3.out.size; omega))).trans (HB5.out.mono (by have := HB1.out.size; have := HB2.out.size; have := HB3.out.size; have := HB4.out.size; omega))).trans (HB6.out.mono (by have := HB1.out.size; have := HB2.out.size; have := HB3.out.size; have := HB4.out.size; have := HB5.out.size; omega))).trans (HB7.out.mono (by have := HB1.out.size; have := HB2.out.size; have := HB3.out.size; have := HB4.out.size; have := HB5.out.size; have := HB6.out.size; omega))).trans (HB8.out.mono (by have := HB1.out.size; have := HB2.out.size; have := HB3.out.size; have := HB4.out.size; have := HB5.out.size; have := HB6.out.size; have := HB7.out.size; omega))).trans (HB9.out.mono (by have := HB1.out.size; have := HB2.out.size; have := HB3.out.size; have := HB4.out.size; have := HB5.out.size; have := HB6.out.size; have := HB7.out.size; have := HB8.out.size; omega))).trans (HB10.out.mono (by have := HB1.out.size; have := HB2.out.size; have := HB3.out.size; have := HB4.out.size; have := HB5.out.size; have := HB6.out.size; have := HB7.out.size; have := HB8.out.size; have := HB9.out.size; omega))).trans (HB11.out.mono (by have := HB1.out.size; have := HB2.out.size; have := HB3.out.size; have := HB4.out.size; have := HB5.out.size; have := HB6.out.size; have := HB7.out.size; have := HB8.out.size; have := HB9.out.size; have := HB10.out.size; omega))).trans (HB12.out.mono (by have := HB1.out.size; have := HB2.out.size; have := HB3.out.size; have := HB4.out.size; have := HB5.out.size; have := HB6.out.size; have := HB7.out.size; have := HB8.out.size; have := HB9.out.size; have := HB10.out.size; have := HB11.out.size; omega))).trans (HB13.out.mono (by have := HB1.out.size; have := HB2.out.size; have := HB3.out.size; have := HB4.out.size; have := HB5.out.size; have := HB6.out.size; have := HB7.out.size; have := HB8.out.size; have := HB9.out.size; have := HB10.out.size; have := HB11.out.size; have := HB12.out.size; omega))).trans (HB14.out.mono (by have := HB1.out.size; have := HB2.out.size; have := HB3.out.size; have := HB4.out.size; have := HB5.out.size; have := HB6.out.size; have := HB7.out.size; have := HB8.out.size; have := HB9.out.size; have := HB10.out.size; have := HB11.out.size; have := HB12.out.size; have := HB13.out.size; omega)))⟩

set_option maxHeartbeats 2000000 in
theorem lawReload (co sl tr mu di ta ha is iw il ds dw dl qu ke : Int) (w : World) : Calls Try.prog 5 #[.agg #[.int .i64 co, .int .i64 sl, .int .i64 tr, .int .i64 mu, .int .i64 di, .int .i64 ta, .int .i64 ha, .int .i64 is, .int .i64 iw, .int .i64 il, .int .i64 ds, .int .i64 dw, .int .i64 dl, .int .i64 qu, .int .i64 ke]] w fun e w' => e = .returned (.bool true) ∧ Below w.heap.size w w' := by
  cases hM : MacB co sl tr mu di ta ha is iw il ds dw dl qu ke
  · have h0 := Aside0.mk awake
    have h1 := Aside0.mk (machValid co sl tr mu di ta ha is iw il ds dw dl qu ke)
    have h2 := Aside0.mk (reloadNo co sl tr mu di ta ha is iw il ds dw dl qu ke hM)
    rw [hM] at h1
    clear hM
    go_enter Try.func5, Try.ntmps5
    go_wp2_with fail
    refine (h0.out _).mono ?_
    rintro e w1 ⟨rfl, hB1⟩
    have HB1 := Aside0.mk hB1
    have hc1 := box_keep hB1 (by simp) (box_new w _ _)
    have hz1 : w.heap.size < w1.heap.size := by have := hB1.size; simp at this; omega
    clear hB1
    go_wp2_with fail
    refine (h1.out _).mono ?_
    rintro e w2 ⟨rfl, hB2⟩
    have HB2 := Aside0.mk hB2
    have hc2 := box_keep hB2 hz1 hc1
    have hz2 : w.heap.size < w2.heap.size := by have := hB2.size; omega
    clear hc1
    clear hB2
    go_wp2_with fail
    refine (h2.out _).mono ?_
    rintro e w3 ⟨rfl, hB3⟩
    have HB3 := Aside0.mk hB3
    have hc3 := box_keep hB3 hz2 hc2
    have hz3 : w.heap.size < w3.heap.size := by have := hB3.size; omega
    clear hc2
    clear hB3
    go_wp2
    go_ret
    exact ⟨rfl, (((((Below.refl w.heap.size w).alloc (Nat.le_refl _) _).trans (HB1.out.mono (by simp))).trans (HB2.out.mono (by omega))).trans (HB3.out.mono (by omega)))⟩

  · have hR := Aside0.mk (re_bounds co sl tr mu di ta ha is iw il ds dw dl qu ke hM)
    obtain ⟨a, b, c, d, e⟩ := mac_parts co sl tr mu di ta ha is iw il ds dw dl qu ke hM
    have h0 := Aside0.mk awake
    have h1 := Aside0.mk (machValid co sl tr mu di ta ha is iw il ds dw dl qu ke)
    have h2 := Aside0.mk (reload co sl tr mu di ta ha is iw il ds dw dl qu ke hM)
    have h3 := Aside0.mk (flush is iw il c)
    have h4 := Aside0.mk (flush ds dw dl d)
    have h5 := Aside0.mk (maxTransfer co sl tr mu di ta ha is iw il ds dw dl qu ke a)
    rw [hM] at h1
    clear hM a b c d e
    go_enter Try.func5, Try.ntmps5
    go_wp2_with fail
    refine (h0.out _).mono ?_
    rintro e w1 ⟨rfl, hB1⟩
    have HB1 := Aside0.mk hB1
    have hc1 := box_keep hB1 (by simp) (box_new w _ _)
    have hz1 : w.heap.size < w1.heap.size := by have := hB1.size; simp at this; omega
    clear hB1
    go_wp2_with fail
    refine (h1.out _).mono ?_
    rintro e w2 ⟨rfl, hB2⟩
    have HB2 := Aside0.mk hB2
    have hc2 := box_keep hB2 hz1 hc1
    have hz2 : w.heap.size < w2.heap.size := by have := hB2.size; omega
    clear hc1
    clear hB2
    go_wp2
    have HC3 := Aside0.mk hc2
    clear hc2
    refine wp_region_quiet (C := fun w' => Below w2.heap.size w2 w') (by kernel_rfl) (by kernel_rfl) ⟨rfl, rfl, rfl, Nat.le_refl _, fun _ _ => rfl⟩ ?_
    have HK3 := Aside0.mk (fun (w' : World) (hw' : Below w2.heap.size w2 w') => box_keep hw' hz2 HC3.out)
    iterate 14
      refine wpQuiet_step (fun K hK => ?_)
      rw [if_pos (by rfl)]
      first
        | (apply quiet_val
           intro w' hw'
           have hc := HK3.out w' hw'
           go_simp
           try exact rfl
           refine hK _ ?_)
        | (apply quiet_call
           intro w' hw'
           go_simp
           first | exact rfl | exact ⟨rfl, rfl⟩
           intro w' hw'
           with_reducible first
               | exact (h2.out _).mono fun e w'' ⟨he, hb⟩ => ⟨he, hw'.trans (hb.mono hw'.size)⟩
               | exact (h3.out _).mono fun e w'' ⟨he, hb⟩ => ⟨he, hw'.trans (hb.mono hw'.size)⟩
               | exact (h4.out _).mono fun e w'' ⟨he, hb⟩ => ⟨he, hw'.trans (hb.mono hw'.size)⟩
               | exact (h5.out _).mono fun e w'' ⟨he, hb⟩ => ⟨he, hw'.trans (hb.mono hw'.size)⟩
           refine hK _ ?_)
      clear hK K
      simp only [Act.put, List.setIfInBounds_toArray, List.set_cons_zero, List.set_cons_succ]
    refine wpQuiet_nil ?_
    intro w3 hB3
    have HB3 := Aside0.mk hB3
    have hc3 := HK3.out _ hB3
    have hz3 : w.heap.size < w3.heap.size := by have := hB3.size; omega
    clear hB3 HK3 HC3
    go_wp2
    go_ret
    exact ⟨bret (by have := hR.out; unfold ReV at *; simp only [wrapEq]; rw [w64 (x := is * iw + ds * dw) (by omega) (by omega), w64 (by omega) (by omega)]; simp), (((((Below.refl w.heap.size w).alloc (Nat.le_refl _) _).trans (HB1.out.mono (by simp))).trans (HB2.out.mono (by omega))).trans (HB3.out.mono (by omega)))⟩

end Go.Proofs.Ytmdbbfoejmakdaa.Hn

/-
  The walk of the law AdmissionNumbers, a theorem a way. By this session, out of its own program (wip/gen).
-/
import Derived.Test.YtmdbbfoejmakdaaHnum4
namespace Go.Proofs.Ytmdbbfoejmakdaa.Hn
open Go.RowKit Go.Proofs.YtmdbbfoejmakdaaW.PrintWords Go.Proofs.YtmdbbfoejmakdaaW.PrintMore
open Go.Proofs.Ytmdbbfoejmakdaa.Hp
set_option linter.unusedVariables false
set_option linter.unusedSimpArgs false
attribute [local go_sem] max2_int min2_int max_two min_two max_three min_three

set_option maxHeartbeats 4000000 in
theorem lawNumbers_no (co sl tr mu di ta ha is iw il ds dw dl qu ke : Int) (cy se : Int) (hM : MacB co sl tr mu di ta ha is iw il ds dw dl qu ke = false) (w : World) : Calls Try.prog 3 #[.agg #[.int .i64 co, .int .i64 sl, .int .i64 tr, .int .i64 mu, .int .i64 di, .int .i64 ta, .int .i64 ha, .int .i64 is, .int .i64 iw, .int .i64 il, .int .i64 ds, .int .i64 dw, .int .i64 dl, .int .i64 qu, .int .i64 ke], .int .i64 cy, .int .i64 se] w fun e w' => e = .returned (.bool true) ∧ Below w.heap.size w w' := by
  have h0 := Aside0.mk awake
  have h1 := Aside0.mk (machValid co sl tr mu di ta ha is iw il ds dw dl qu ke)
  rw [hM] at h1
  have h2 := Aside0.mk (quantaNo co sl tr mu di ta ha is iw il ds dw dl qu ke cy se hM)
  have h3 := Aside0.mk (reloadNo co sl tr mu di ta ha is iw il ds dw dl qu ke hM)
  have h4 := Aside0.mk (zoneNo co sl tr mu di ta ha is iw il ds dw dl qu ke se hM)
  have h5 := Aside0.mk (usefulNo co sl tr mu di ta ha is iw il ds dw dl qu ke se hM)
  clear hM
  go_enter Try.func3, Try.ntmps3
  go_wp2_with fail
  refine (h0.out _).mono ?_
  rintro e w1 ⟨rfl, hB1⟩
  have HB1 := Aside0.mk hB1
  have hc1 := box_keep hB1 (by simp) (box_new w _ _)
  have hz1 : w.heap.size < w1.heap.size := by have := hB1.size; simp at this; omega
  clear hB1
  go_wp2_with fail
  refine (h2.out _).mono ?_
  rintro e w2 ⟨rfl, hB2⟩
  have HB2 := Aside0.mk hB2
  have hc2 := box_keep hB2 hz1 hc1
  have hz2 : w.heap.size < w2.heap.size := by have := hB2.size; omega
  clear hc1
  clear hB2
  go_wp2
  have HC3 := Aside0.mk hc2
  clear hc2
  refine wp_region_quiet (C := fun w' => Below w2.heap.size w2 w') (by kernel_rfl) (by kernel_rfl) ⟨rfl, rfl, rfl, Nat.le_refl _, fun _ _ => rfl⟩ ?_
  have HK3 := Aside0.mk (fun (w' : World) (hw' : Below w2.heap.size w2 w') => box_keep hw' hz2 HC3.out)
  iterate 11
    refine wpQuiet_step (fun K hK => ?_)
    rw [if_pos (by rfl)]
    first
      | (apply quiet_val
         intro w' hw'
         have hc := HK3.out w' hw'
         go_simp
         try exact rfl
         refine hK _ ?_)
      | (apply quiet_call
         intro w' hw'
         go_simp
         first | exact rfl | exact ⟨rfl, rfl⟩
         intro w' hw'
         with_reducible first
             | exact (h3.out _).mono fun e w'' ⟨he, hb⟩ => ⟨he, hw'.trans (hb.mono hw'.size)⟩
             | exact (h4.out _).mono fun e w'' ⟨he, hb⟩ => ⟨he, hw'.trans (hb.mono hw'.size)⟩
             | exact (h5.out _).mono fun e w'' ⟨he, hb⟩ => ⟨he, hw'.trans (hb.mono hw'.size)⟩
         refine hK _ ?_)
    clear hK K
    simp only [Act.put, List.setIfInBounds_toArray, List.set_cons_zero, List.set_cons_succ]
  refine wpQuiet_nil ?_
  intro w3 hB3
  have HB3 := Aside0.mk hB3
  have hc3 := HK3.out _ hB3
  have hz3 : w.heap.size < w3.heap.size := by have := hB3.size; omega
  clear hB3 HK3 HC3
  go_wp2_with fail
  refine (h1.out _).mono ?_
  rintro e w4 ⟨rfl, hB4⟩
  have HB4 := Aside0.mk hB4
  have hc4 := box_keep hB4 hz3 hc3
  have hz4 : w.heap.size < w4.heap.size := by have := hB4.size; omega
  clear hc3
  clear hB4
  go_wp2
  go_ret
  exact ⟨rfl, ((((((Below.refl w.heap.size w).alloc (Nat.le_refl _) _).trans (HB1.out.mono (by simp))).trans (HB2.out.mono (by omega))).trans (HB3.out.mono (by omega))).trans (HB4.out.mono (by omega)))⟩

set_option maxHeartbeats 4000000 in
theorem lawNumbers_low (co sl tr mu di ta ha is iw il ds dw dl qu ke : Int) (cy se : Int) (hM : MacB co sl tr mu di ta ha is iw il ds dw dl qu ke = true) (hc : 0 ≤ cy ∧ cy ≤ 1099511627776) (hs : 0 ≤ se ∧ se ≤ 1099511627776) (hu : UsV co sl tr mu di ta ha qu ke se ≤ ReV co sl tr is iw ds dw) (w : World) : Calls Try.prog 3 #[.agg #[.int .i64 co, .int .i64 sl, .int .i64 tr, .int .i64 mu, .int .i64 di, .int .i64 ta, .int .i64 ha, .int .i64 is, .int .i64 iw, .int .i64 il, .int .i64 ds, .int .i64 dw, .int .i64 dl, .int .i64 qu, .int .i64 ke], .int .i64 cy, .int .i64 se] w fun e w' => e = .returned (.bool true) ∧ Below w.heap.size w w' := by
  have h0 := Aside0.mk awake
  have h1 := Aside0.mk (machValid co sl tr mu di ta ha is iw il ds dw dl qu ke)
  rw [hM] at h1
  have h3 := Aside0.mk (reload co sl tr mu di ta ha is iw il ds dw dl qu ke hM)
  have h12 := Aside0.mk (refReload co sl tr mu di ta ha is iw il ds dw dl qu ke hM)
  have h13 := Aside0.mk (ranged se)
  have h4 := Aside0.mk (zone co sl tr mu di ta ha is iw il ds dw dl qu ke se hM hs)
  have h5 := Aside0.mk (useful co sl tr mu di ta ha is iw il ds dw dl qu ke se hM hs)
  have h14 := Aside0.mk (refUseful co sl tr mu di ta ha is iw il ds dw dl qu ke se hM hs)
  have h16 := Aside0.mk (ranged cy)
  have hZ := Aside0.mk (zo_bounds co sl tr mu di ta ha is iw il ds dw dl qu ke hM hs.1 hs.2)
  rw [decide_eq_true hs] at h13
  rw [decide_eq_true hc] at h16
  have h2 := Aside0.mk (quantaLow co sl tr mu di ta ha is iw il ds dw dl qu ke cy se hM hc hs hu)
  have h15 := Aside0.mk (refQuantaLow co sl tr mu di ta ha is iw il ds dw dl qu ke cy se hM hc hs hu)
  clear hM hc hs hu
  have gz := hZ.out
  clear hZ
  obtain ⟨gz1, gz2⟩ := gz
  generalize UsV co sl tr mu di ta ha qu ke se = U at *
  generalize ReV co sl tr is iw ds dw = R at *
  go_enter Try.func3, Try.ntmps3
  go_wp2_with fail
  refine (h0.out _).mono ?_
  rintro e w1 ⟨rfl, hB1⟩
  have HB1 := Aside0.mk hB1
  have hc1 := box_keep hB1 (by simp) (box_new w _ _)
  have hz1 : w.heap.size < w1.heap.size := by have := hB1.size; simp at this; omega
  clear hB1
  go_wp2_with fail
  refine (h2.out _).mono ?_
  rintro e w2 ⟨rfl, hB2⟩
  have HB2 := Aside0.mk hB2
  have hc2 := box_keep hB2 hz1 hc1
  have hz2 : w.heap.size < w2.heap.size := by have := hB2.size; omega
  clear hc1
  clear hB2
  go_wp2
  have HC3 := Aside0.mk hc2
  clear hc2
  refine wp_region_quiet (C := fun w' => Below w2.heap.size w2 w') (by kernel_rfl) (by kernel_rfl) ⟨rfl, rfl, rfl, Nat.le_refl _, fun _ _ => rfl⟩ ?_
  have HK3 := Aside0.mk (fun (w' : World) (hw' : Below w2.heap.size w2 w') => box_keep hw' hz2 HC3.out)
  iterate 11
    refine wpQuiet_step (fun K hK => ?_)
    rw [if_pos (by rfl)]
    first
      | (apply quiet_val
         intro w' hw'
         have hc := HK3.out w' hw'
         go_simp
         try exact rfl
         refine hK _ ?_)
      | (apply quiet_call
         intro w' hw'
         go_simp
         first | exact rfl | exact ⟨rfl, rfl⟩
         intro w' hw'
         with_reducible first
             | exact (h3.out _).mono fun e w'' ⟨he, hb⟩ => ⟨he, hw'.trans (hb.mono hw'.size)⟩
             | exact (h4.out _).mono fun e w'' ⟨he, hb⟩ => ⟨he, hw'.trans (hb.mono hw'.size)⟩
             | exact (h5.out _).mono fun e w'' ⟨he, hb⟩ => ⟨he, hw'.trans (hb.mono hw'.size)⟩
         refine hK _ ?_)
    clear hK K
    simp only [Act.put, List.setIfInBounds_toArray, List.set_cons_zero, List.set_cons_succ]
  refine wpQuiet_nil ?_
  intro w3 hB3
  have HB3 := Aside0.mk hB3
  have hc3 := HK3.out _ hB3
  have hz3 : w.heap.size < w3.heap.size := by have := hB3.size; omega
  clear hB3 HK3 HC3
  go_wp2_with fail
  refine (h1.out _).mono ?_
  rintro e w4 ⟨rfl, hB4⟩
  have HB4 := Aside0.mk hB4
  have hc4 := box_keep hB4 hz3 hc3
  have hz4 : w.heap.size < w4.heap.size := by have := hB4.size; omega
  clear hc3
  clear hB4
  go_wp2_with fail
  refine (h12.out _).mono ?_
  rintro e w5 ⟨rfl, hB5⟩
  have HB5 := Aside0.mk hB5
  have hc5 := box_keep hB5 hz4 hc4
  have hz5 : w.heap.size < w5.heap.size := by have := hB5.size; omega
  clear hc4
  clear hB5
  go_wp2_with fail
  refine (h13.out _).mono ?_
  rintro e w6 ⟨rfl, hB6⟩
  have HB6 := Aside0.mk hB6
  have hc6 := box_keep hB6 hz5 hc5
  have hz6 : w.heap.size < w6.heap.size := by have := hB6.size; omega
  clear hc5
  clear hB6
  go_wp2_with fail
  refine (h14.out _).mono ?_
  rintro e w7 ⟨rfl, hB7⟩
  have HB7 := Aside0.mk hB7
  have hc7 := box_keep hB7 hz6 hc6
  have hz7 : w.heap.size < w7.heap.size := by have := hB7.size; omega
  clear hc6
  clear hB7
  go_wp2_with fail
  refine (h16.out _).mono ?_
  rintro e w8 ⟨rfl, hB8⟩
  have HB8 := Aside0.mk hB8
  have hc8 := box_keep hB8 hz7 hc7
  have hz8 : w.heap.size < w8.heap.size := by have := hB8.size; omega
  clear hc7
  clear hB8
  go_wp2_with fail
  refine (h15.out _).mono ?_
  rintro e w9 ⟨rfl, hB9⟩
  have HB9 := Aside0.mk hB9
  have hc9 := box_keep hB9 hz8 hc8
  have hz9 : w.heap.size < w9.heap.size := by have := hB9.size; omega
  clear hc8
  clear hB9
  go_wp2
  go_ret
  exact ⟨rfl, (((((((((((Below.refl w.heap.size w).alloc (Nat.le_refl _) _).trans (HB1.out.mono (by simp))).trans (HB2.out.mono (by omega))).trans (HB3.out.mono (by omega))).trans (HB4.out.mono (by omega))).trans (HB5.out.mono (by omega))).trans (HB6.out.mono (by omega))).trans (HB7.out.mono (by omega))).trans (HB8.out.mono (by omega))).trans (HB9.out.mono (by omega)))⟩

set_option maxHeartbeats 4000000 in
theorem lawNumbers_yes (co sl tr mu di ta ha is iw il ds dw dl qu ke : Int) (cy se : Int) (hM : MacB co sl tr mu di ta ha is iw il ds dw dl qu ke = true) (hc : 0 ≤ cy ∧ cy ≤ 1099511627776) (hs : 0 ≤ se ∧ se ≤ 1099511627776) (hu : ¬ UsV co sl tr mu di ta ha qu ke se ≤ ReV co sl tr is iw ds dw) (w : World) : Calls Try.prog 3 #[.agg #[.int .i64 co, .int .i64 sl, .int .i64 tr, .int .i64 mu, .int .i64 di, .int .i64 ta, .int .i64 ha, .int .i64 is, .int .i64 iw, .int .i64 il, .int .i64 ds, .int .i64 dw, .int .i64 dl, .int .i64 qu, .int .i64 ke], .int .i64 cy, .int .i64 se] w fun e w' => e = .returned (.bool true) ∧ Below w.heap.size w w' := by
  have h0 := Aside0.mk awake
  have h1 := Aside0.mk (machValid co sl tr mu di ta ha is iw il ds dw dl qu ke)
  rw [hM] at h1
  have h3 := Aside0.mk (reload co sl tr mu di ta ha is iw il ds dw dl qu ke hM)
  have h12 := Aside0.mk (refReload co sl tr mu di ta ha is iw il ds dw dl qu ke hM)
  have h13 := Aside0.mk (ranged se)
  have h4 := Aside0.mk (zone co sl tr mu di ta ha is iw il ds dw dl qu ke se hM hs)
  have h5 := Aside0.mk (useful co sl tr mu di ta ha is iw il ds dw dl qu ke se hM hs)
  have h14 := Aside0.mk (refUseful co sl tr mu di ta ha is iw il ds dw dl qu ke se hM hs)
  have h16 := Aside0.mk (ranged cy)
  have hZ := Aside0.mk (zo_bounds co sl tr mu di ta ha is iw il ds dw dl qu ke hM hs.1 hs.2)
  rw [decide_eq_true hs] at h13
  rw [decide_eq_true hc] at h16
  have h2 := Aside0.mk (quanta co sl tr mu di ta ha is iw il ds dw dl qu ke cy se hM hc hs hu)
  have h15 := Aside0.mk (refQuanta co sl tr mu di ta ha is iw il ds dw dl qu ke cy se hM hc hs hu)
  clear hM hc hs hu
  have gz := hZ.out
  clear hZ
  obtain ⟨gz1, gz2⟩ := gz
  generalize UsV co sl tr mu di ta ha qu ke se = U at *
  generalize ReV co sl tr is iw ds dw = R at *
  have gq : 1 ≤ QuV U R cy := quv_pos
  generalize QuV U R cy = Q at *
  go_enter Try.func3, Try.ntmps3
  go_wp2_with fail
  refine (h0.out _).mono ?_
  rintro e w1 ⟨rfl, hB1⟩
  have HB1 := Aside0.mk hB1
  have hc1 := box_keep hB1 (by simp) (box_new w _ _)
  have hz1 : w.heap.size < w1.heap.size := by have := hB1.size; simp at this; omega
  clear hB1
  go_wp2_with fail
  refine (h2.out _).mono ?_
  rintro e w2 ⟨rfl, hB2⟩
  have HB2 := Aside0.mk hB2
  have hc2 := box_keep hB2 hz1 hc1
  have hz2 : w.heap.size < w2.heap.size := by have := hB2.size; omega
  clear hc1
  clear hB2
  go_wp2
  have HC3 := Aside0.mk hc2
  clear hc2
  refine wp_region_quiet (C := fun w' => Below w2.heap.size w2 w') (by kernel_rfl) (by kernel_rfl) ⟨rfl, rfl, rfl, Nat.le_refl _, fun _ _ => rfl⟩ ?_
  have HK3 := Aside0.mk (fun (w' : World) (hw' : Below w2.heap.size w2 w') => box_keep hw' hz2 HC3.out)
  iterate 11
    refine wpQuiet_step (fun K hK => ?_)
    rw [if_pos (by rfl)]
    first
      | (apply quiet_val
         intro w' hw'
         have hc := HK3.out w' hw'
         go_simp
         try exact rfl
         refine hK _ ?_)
      | (apply quiet_call
         intro w' hw'
         go_simp
         first | exact rfl | exact ⟨rfl, rfl⟩
         intro w' hw'
         with_reducible first
             | exact (h3.out _).mono fun e w'' ⟨he, hb⟩ => ⟨he, hw'.trans (hb.mono hw'.size)⟩
             | exact (h4.out _).mono fun e w'' ⟨he, hb⟩ => ⟨he, hw'.trans (hb.mono hw'.size)⟩
             | exact (h5.out _).mono fun e w'' ⟨he, hb⟩ => ⟨he, hw'.trans (hb.mono hw'.size)⟩
         refine hK _ ?_)
    clear hK K
    simp only [Act.put, List.setIfInBounds_toArray, List.set_cons_zero, List.set_cons_succ]
  refine wpQuiet_nil ?_
  intro w3 hB3
  have HB3 := Aside0.mk hB3
  have hc3 := HK3.out _ hB3
  have hz3 : w.heap.size < w3.heap.size := by have := hB3.size; omega
  clear hB3 HK3 HC3
  go_wp2_with fail
  refine (h1.out _).mono ?_
  rintro e w4 ⟨rfl, hB4⟩
  have HB4 := Aside0.mk hB4
  have hc4 := box_keep hB4 hz3 hc3
  have hz4 : w.heap.size < w4.heap.size := by have := hB4.size; omega
  clear hc3
  clear hB4
  go_wp2_with fail
  refine (h12.out _).mono ?_
  rintro e w5 ⟨rfl, hB5⟩
  have HB5 := Aside0.mk hB5
  have hc5 := box_keep hB5 hz4 hc4
  have hz5 : w.heap.size < w5.heap.size := by have := hB5.size; omega
  clear hc4
  clear hB5
  go_wp2_with fail
  refine (h13.out _).mono ?_
  rintro e w6 ⟨rfl, hB6⟩
  have HB6 := Aside0.mk hB6
  have hc6 := box_keep hB6 hz5 hc5
  have hz6 : w.heap.size < w6.heap.size := by have := hB6.size; omega
  clear hc5
  clear hB6
  go_wp2_with fail
  refine (h14.out _).mono ?_
  rintro e w7 ⟨rfl, hB7⟩
  have HB7 := Aside0.mk hB7
  have hc7 := box_keep hB7 hz6 hc6
  have hz7 : w.heap.size < w7.heap.size := by have := hB7.size; omega
  clear hc6
  clear hB7
  go_wp2_with fail
  refine (h16.out _).mono ?_
  rintro e w8 ⟨rfl, hB8⟩
  have HB8 := Aside0.mk hB8
  have hc8 := box_keep hB8 hz7 hc7
  have hz8 : w.heap.size < w8.heap.size := by have := hB8.size; omega
  clear hc7
  clear hB8
  go_wp2_with fail
  refine (h15.out _).mono ?_
  rintro e w9 ⟨rfl, hB9⟩
  have HB9 := Aside0.mk hB9
  have hc9 := box_keep hB9 hz8 hc8
  have hz9 : w.heap.size < w9.heap.size := by have := hB9.size; omega
  clear hc8
  clear hB9
  go_wp2
  go_ret
  exact ⟨bret (by simp <;> omega), (((((((((((Below.refl w.heap.size w).alloc (Nat.le_refl _) _).trans (HB1.out.mono (by simp))).trans (HB2.out.mono (by omega))).trans (HB3.out.mono (by omega))).trans (HB4.out.mono (by omega))).trans (HB5.out.mono (by omega))).trans (HB6.out.mono (by omega))).trans (HB7.out.mono (by omega))).trans (HB8.out.mono (by omega))).trans (HB9.out.mono (by omega)))⟩

set_option maxHeartbeats 4000000 in
theorem lawNumbers_cy (co sl tr mu di ta ha is iw il ds dw dl qu ke : Int) (cy se : Int) (hM : MacB co sl tr mu di ta ha is iw il ds dw dl qu ke = true) (hc : ¬ (0 ≤ cy ∧ cy ≤ 1099511627776)) (hs : 0 ≤ se ∧ se ≤ 1099511627776) (w : World) : Calls Try.prog 3 #[.agg #[.int .i64 co, .int .i64 sl, .int .i64 tr, .int .i64 mu, .int .i64 di, .int .i64 ta, .int .i64 ha, .int .i64 is, .int .i64 iw, .int .i64 il, .int .i64 ds, .int .i64 dw, .int .i64 dl, .int .i64 qu, .int .i64 ke], .int .i64 cy, .int .i64 se] w fun e w' => e = .returned (.bool true) ∧ Below w.heap.size w w' := by
  have h0 := Aside0.mk awake
  have h1 := Aside0.mk (machValid co sl tr mu di ta ha is iw il ds dw dl qu ke)
  rw [hM] at h1
  have h3 := Aside0.mk (reload co sl tr mu di ta ha is iw il ds dw dl qu ke hM)
  have h12 := Aside0.mk (refReload co sl tr mu di ta ha is iw il ds dw dl qu ke hM)
  have h13 := Aside0.mk (ranged se)
  have h4 := Aside0.mk (zone co sl tr mu di ta ha is iw il ds dw dl qu ke se hM hs)
  have h5 := Aside0.mk (useful co sl tr mu di ta ha is iw il ds dw dl qu ke se hM hs)
  have h14 := Aside0.mk (refUseful co sl tr mu di ta ha is iw il ds dw dl qu ke se hM hs)
  have h16 := Aside0.mk (ranged cy)
  have hZ := Aside0.mk (zo_bounds co sl tr mu di ta ha is iw il ds dw dl qu ke hM hs.1 hs.2)
  rw [decide_eq_true hs] at h13
  have h2 := Aside0.mk (quantaCy co sl tr mu di ta ha is iw il ds dw dl qu ke cy se hM hc)
  rw [decide_eq_false hc] at h16
  clear hM hc hs
  have gz := hZ.out
  clear hZ
  obtain ⟨gz1, gz2⟩ := gz
  generalize UsV co sl tr mu di ta ha qu ke se = U at *
  generalize ReV co sl tr is iw ds dw = R at *
  go_enter Try.func3, Try.ntmps3
  go_wp2_with fail
  refine (h0.out _).mono ?_
  rintro e w1 ⟨rfl, hB1⟩
  have HB1 := Aside0.mk hB1
  have hc1 := box_keep hB1 (by simp) (box_new w _ _)
  have hz1 : w.heap.size < w1.heap.size := by have := hB1.size; simp at this; omega
  clear hB1
  go_wp2_with fail
  refine (h2.out _).mono ?_
  rintro e w2 ⟨rfl, hB2⟩
  have HB2 := Aside0.mk hB2
  have hc2 := box_keep hB2 hz1 hc1
  have hz2 : w.heap.size < w2.heap.size := by have := hB2.size; omega
  clear hc1
  clear hB2
  go_wp2
  have HC3 := Aside0.mk hc2
  clear hc2
  refine wp_region_quiet (C := fun w' => Below w2.heap.size w2 w') (by kernel_rfl) (by kernel_rfl) ⟨rfl, rfl, rfl, Nat.le_refl _, fun _ _ => rfl⟩ ?_
  have HK3 := Aside0.mk (fun (w' : World) (hw' : Below w2.heap.size w2 w') => box_keep hw' hz2 HC3.out)
  iterate 11
    refine wpQuiet_step (fun K hK => ?_)
    rw [if_pos (by rfl)]
    first
      | (apply quiet_val
         intro w' hw'
         have hc := HK3.out w' hw'
         go_simp
         try exact rfl
         refine hK _ ?_)
      | (apply quiet_call
         intro w' hw'
         go_simp
         first | exact rfl | exact ⟨rfl, rfl⟩
         intro w' hw'
         with_reducible first
             | exact (h3.out _).mono fun e w'' ⟨he, hb⟩ => ⟨he, hw'.trans (hb.mono hw'.size)⟩
             | exact (h4.out _).mono fun e w'' ⟨he, hb⟩ => ⟨he, hw'.trans (hb.mono hw'.size)⟩
             | exact (h5.out _).mono fun e w'' ⟨he, hb⟩ => ⟨he, hw'.trans (hb.mono hw'.size)⟩
         refine hK _ ?_)
    clear hK K
    simp only [Act.put, List.setIfInBounds_toArray, List.set_cons_zero, List.set_cons_succ]
  refine wpQuiet_nil ?_
  intro w3 hB3
  have HB3 := Aside0.mk hB3
  have hc3 := HK3.out _ hB3
  have hz3 : w.heap.size < w3.heap.size := by have := hB3.size; omega
  clear hB3 HK3 HC3
  go_wp2_with fail
  refine (h1.out _).mono ?_
  rintro e w4 ⟨rfl, hB4⟩
  have HB4 := Aside0.mk hB4
  have hc4 := box_keep hB4 hz3 hc3
  have hz4 : w.heap.size < w4.heap.size := by have := hB4.size; omega
  clear hc3
  clear hB4
  go_wp2_with fail
  refine (h12.out _).mono ?_
  rintro e w5 ⟨rfl, hB5⟩
  have HB5 := Aside0.mk hB5
  have hc5 := box_keep hB5 hz4 hc4
  have hz5 : w.heap.size < w5.heap.size := by have := hB5.size; omega
  clear hc4
  clear hB5
  go_wp2_with fail
  refine (h13.out _).mono ?_
  rintro e w6 ⟨rfl, hB6⟩
  have HB6 := Aside0.mk hB6
  have hc6 := box_keep hB6 hz5 hc5
  have hz6 : w.heap.size < w6.heap.size := by have := hB6.size; omega
  clear hc5
  clear hB6
  go_wp2_with fail
  refine (h14.out _).mono ?_
  rintro e w7 ⟨rfl, hB7⟩
  have HB7 := Aside0.mk hB7
  have hc7 := box_keep hB7 hz6 hc6
  have hz7 : w.heap.size < w7.heap.size := by have := hB7.size; omega
  clear hc6
  clear hB7
  go_wp2_with fail
  refine (h16.out _).mono ?_
  rintro e w8 ⟨rfl, hB8⟩
  have HB8 := Aside0.mk hB8
  have hc8 := box_keep hB8 hz7 hc7
  have hz8 : w.heap.size < w8.heap.size := by have := hB8.size; omega
  clear hc7
  clear hB8
  go_wp2
  go_ret
  exact ⟨rfl, ((((((((((Below.refl w.heap.size w).alloc (Nat.le_refl _) _).trans (HB1.out.mono (by simp))).trans (HB2.out.mono (by omega))).trans (HB3.out.mono (by omega))).trans (HB4.out.mono (by omega))).trans (HB5.out.mono (by omega))).trans (HB6.out.mono (by omega))).trans (HB7.out.mono (by omega))).trans (HB8.out.mono (by omega)))⟩

set_option maxHeartbeats 4000000 in
theorem lawNumbers_se (co sl tr mu di ta ha is iw il ds dw dl qu ke : Int) (cy se : Int) (hM : MacB co sl tr mu di ta ha is iw il ds dw dl qu ke = true) (hs : ¬ (0 ≤ se ∧ se ≤ 1099511627776)) (w : World) : Calls Try.prog 3 #[.agg #[.int .i64 co, .int .i64 sl, .int .i64 tr, .int .i64 mu, .int .i64 di, .int .i64 ta, .int .i64 ha, .int .i64 is, .int .i64 iw, .int .i64 il, .int .i64 ds, .int .i64 dw, .int .i64 dl, .int .i64 qu, .int .i64 ke], .int .i64 cy, .int .i64 se] w fun e w' => e = .returned (.bool true) ∧ Below w.heap.size w w' := by
  have h0 := Aside0.mk awake
  have h1 := Aside0.mk (machValid co sl tr mu di ta ha is iw il ds dw dl qu ke)
  rw [hM] at h1
  have h3 := Aside0.mk (reload co sl tr mu di ta ha is iw il ds dw dl qu ke hM)
  have h12 := Aside0.mk (refReload co sl tr mu di ta ha is iw il ds dw dl qu ke hM)
  have h13 := Aside0.mk (ranged se)
  have h4 := Aside0.mk (zoneOut co sl tr mu di ta ha is iw il ds dw dl qu ke se hM hs)
  have h5 := Aside0.mk (usefulOut co sl tr mu di ta ha is iw il ds dw dl qu ke se hM hs)
  have h2 : Aside0 (∀ w, Calls Try.prog 7 #[.agg #[.int .i64 co, .int .i64 sl, .int .i64 tr, .int .i64 mu, .int .i64 di, .int .i64 ta, .int .i64 ha, .int .i64 is, .int .i64 iw, .int .i64 il, .int .i64 ds, .int .i64 dw, .int .i64 dl, .int .i64 qu, .int .i64 ke], .int .i64 cy, .int .i64 se] w fun e w' => e = .returned (.tuple #[.int .i64 0, .int .i64 2]) ∧ Below w.heap.size w w') := by
    by_cases hc : 0 ≤ cy ∧ cy ≤ 1099511627776
    · exact ⟨quantaSe co sl tr mu di ta ha is iw il ds dw dl qu ke cy se hM hc hs⟩
    · exact ⟨quantaCy co sl tr mu di ta ha is iw il ds dw dl qu ke cy se hM hc⟩
  rw [decide_eq_false hs] at h13
  clear hM hs
  generalize ReV co sl tr is iw ds dw = R at *
  go_enter Try.func3, Try.ntmps3
  go_wp2_with fail
  refine (h0.out _).mono ?_
  rintro e w1 ⟨rfl, hB1⟩
  have HB1 := Aside0.mk hB1
  have hc1 := box_keep hB1 (by simp) (box_new w _ _)
  have hz1 : w.heap.size < w1.heap.size := by have := hB1.size; simp at this; omega
  clear hB1
  go_wp2_with fail
  refine (h2.out _).mono ?_
  rintro e w2 ⟨rfl, hB2⟩
  have HB2 := Aside0.mk hB2
  have hc2 := box_keep hB2 hz1 hc1
  have hz2 : w.heap.size < w2.heap.size := by have := hB2.size; omega
  clear hc1
  clear hB2
  go_wp2
  have HC3 := Aside0.mk hc2
  clear hc2
  refine wp_region_quiet (C := fun w' => Below w2.heap.size w2 w') (by kernel_rfl) (by kernel_rfl) ⟨rfl, rfl, rfl, Nat.le_refl _, fun _ _ => rfl⟩ ?_
  have HK3 := Aside0.mk (fun (w' : World) (hw' : Below w2.heap.size w2 w') => box_keep hw' hz2 HC3.out)
  iterate 11
    refine wpQuiet_step (fun K hK => ?_)
    rw [if_pos (by rfl)]
    first
      | (apply quiet_val
         intro w' hw'
         have hc := HK3.out w' hw'
         go_simp
         try exact rfl
         refine hK _ ?_)
      | (apply quiet_call
         intro w' hw'
         go_simp
         first | exact rfl | exact ⟨rfl, rfl⟩
         intro w' hw'
         with_reducible first
             | exact (h3.out _).mono fun e w'' ⟨he, hb⟩ => ⟨he, hw'.trans (hb.mono hw'.size)⟩
             | exact (h4.out _).mono fun e w'' ⟨he, hb⟩ => ⟨he, hw'.trans (hb.mono hw'.size)⟩
             | exact (h5.out _).mono fun e w'' ⟨he, hb⟩ => ⟨he, hw'.trans (hb.mono hw'.size)⟩
         refine hK _ ?_)
    clear hK K
    simp only [Act.put, List.setIfInBounds_toArray, List.set_cons_zero, List.set_cons_succ]
  refine wpQuiet_nil ?_
  intro w3 hB3
  have HB3 := Aside0.mk hB3
  have hc3 := HK3.out _ hB3
  have hz3 : w.heap.size < w3.heap.size := by have := hB3.size; omega
  clear hB3 HK3 HC3
  go_wp2_with fail
  refine (h1.out _).mono ?_
  rintro e w4 ⟨rfl, hB4⟩
  have HB4 := Aside0.mk hB4
  have hc4 := box_keep hB4 hz3 hc3
  have hz4 : w.heap.size < w4.heap.size := by have := hB4.size; omega
  clear hc3
  clear hB4
  go_wp2_with fail
  refine (h12.out _).mono ?_
  rintro e w5 ⟨rfl, hB5⟩
  have HB5 := Aside0.mk hB5
  have hc5 := box_keep hB5 hz4 hc4
  have hz5 : w.heap.size < w5.heap.size := by have := hB5.size; omega
  clear hc4
  clear hB5
  go_wp2_with fail
  refine (h13.out _).mono ?_
  rintro e w6 ⟨rfl, hB6⟩
  have HB6 := Aside0.mk hB6
  have hc6 := box_keep hB6 hz5 hc5
  have hz6 : w.heap.size < w6.heap.size := by have := hB6.size; omega
  clear hc5
  clear hB6
  go_wp2
  go_ret
  exact ⟨rfl, ((((((((Below.refl w.heap.size w).alloc (Nat.le_refl _) _).trans (HB1.out.mono (by simp))).trans (HB2.out.mono (by omega))).trans (HB3.out.mono (by omega))).trans (HB4.out.mono (by omega))).trans (HB5.out.mono (by omega))).trans (HB6.out.mono (by omega)))⟩

set_option maxHeartbeats 4000000 in
theorem lawNumbers (co sl tr mu di ta ha is iw il ds dw dl qu ke : Int) (cy se : Int) (w : World) : Calls Try.prog 3 #[.agg #[.int .i64 co, .int .i64 sl, .int .i64 tr, .int .i64 mu, .int .i64 di, .int .i64 ta, .int .i64 ha, .int .i64 is, .int .i64 iw, .int .i64 il, .int .i64 ds, .int .i64 dw, .int .i64 dl, .int .i64 qu, .int .i64 ke], .int .i64 cy, .int .i64 se] w fun e w' => e = .returned (.bool true) ∧ Below w.heap.size w w' := by
  cases hM : MacB co sl tr mu di ta ha is iw il ds dw dl qu ke
  · exact lawNumbers_no co sl tr mu di ta ha is iw il ds dw dl qu ke cy se hM w
  · by_cases hs : 0 ≤ se ∧ se ≤ 1099511627776
    · by_cases hc : 0 ≤ cy ∧ cy ≤ 1099511627776
      · by_cases hu : UsV co sl tr mu di ta ha qu ke se ≤ ReV co sl tr is iw ds dw
        · exact lawNumbers_low co sl tr mu di ta ha is iw il ds dw dl qu ke cy se hM hc hs hu w
        · exact lawNumbers_yes co sl tr mu di ta ha is iw il ds dw dl qu ke cy se hM hc hs hu w
      · exact lawNumbers_cy co sl tr mu di ta ha is iw il ds dw dl qu ke cy se hM hc hs w
    · exact lawNumbers_se co sl tr mu di ta ha is iw il ds dw dl qu ke cy se hM hs w
end Go.Proofs.Ytmdbbfoejmakdaa.Hn

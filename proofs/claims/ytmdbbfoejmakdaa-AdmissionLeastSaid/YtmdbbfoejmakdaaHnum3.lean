/-
  The contracts of Quanta, of the references and of the examples (part 3). By this session, out of its own program (wip/gen).
-/
import Derived.Test.YtmdbbfoejmakdaaHnum2
namespace Go.Proofs.Ytmdbbfoejmakdaa.Hn
open Go.RowKit Go.Proofs.YtmdbbfoejmakdaaW.PrintWords Go.Proofs.YtmdbbfoejmakdaaW.PrintMore
open Go.Proofs.Ytmdbbfoejmakdaa.Hp
set_option linter.unusedVariables false
set_option linter.unusedSimpArgs false
attribute [local go_sem] max2_int min2_int max_two min_two max_three min_three

theorem tret {a b c d : Int} (h : a = c) (h2 : b = d) : Ending.returned (.tuple #[.int .i64 a, .int .i64 b]) = .returned (.tuple #[.int .i64 c, .int .i64 d]) := by rw [h, h2]
/-- The quanta where the useful cycles U exceed the reload R. -/
def QuV (U R cy : Int) : Int := mx 1 (((cy - R) + (U - R) - 1) / (U - R))
theorem mx_one_tdiv {n d : Int} (hd : 0 < d) : mx 1 (n.tdiv d) = mx 1 (n / d) := by
  by_cases h : 0 ≤ n
  · rw [Int.tdiv_eq_ediv_of_nonneg h]
  · have h1 : n / d < 0 := Int.ediv_neg_of_neg_of_pos (by omega) hd
    have h2 : n.tdiv d ≤ 0 := by
      have h3 : 0 ≤ (-n).tdiv d := Int.tdiv_nonneg (by omega) (by omega)
      rw [Int.neg_tdiv] at h3
      omega
    unfold mx
    rw [if_neg (by omega), if_neg (by omega)]

set_option maxHeartbeats 2000000 in
theorem quantaNo (co sl tr mu di ta ha is iw il ds dw dl qu ke : Int) (cy se : Int) (h : MacB co sl tr mu di ta ha is iw il ds dw dl qu ke = false) (w : World) : Calls Try.prog 7 #[.agg #[.int .i64 co, .int .i64 sl, .int .i64 tr, .int .i64 mu, .int .i64 di, .int .i64 ta, .int .i64 ha, .int .i64 is, .int .i64 iw, .int .i64 il, .int .i64 ds, .int .i64 dw, .int .i64 dl, .int .i64 qu, .int .i64 ke], .int .i64 cy, .int .i64 se] w fun e w' => e = .returned (.tuple #[.int .i64 (0), .int .i64 (1)]) ∧ Below w.heap.size w w' := by
  have h1 := Aside0.mk (machValid co sl tr mu di ta ha is iw il ds dw dl qu ke)
  rw [h] at h1
  clear h
  go_enter Try.func7, Try.ntmps7
  go_wp2_with fail
  refine (h1.out _).mono ?_
  rintro e w1 ⟨rfl, hB1⟩
  have HB1 := Aside0.mk hB1
  have hc1 := box_keep hB1 (by simp) (box_new w _ _)
  have hz1 : w.heap.size < w1.heap.size := by have := hB1.size; simp at this; omega
  clear hB1
  go_wp2
  go_ret2
  exact ⟨rfl, (((Below.refl w.heap.size w).alloc (Nat.le_refl _) _).trans (HB1.out.mono (by simp)))⟩

set_option maxHeartbeats 2000000 in
theorem quantaCy (co sl tr mu di ta ha is iw il ds dw dl qu ke : Int) (cy se : Int) (h : MacB co sl tr mu di ta ha is iw il ds dw dl qu ke = true) (hc : ¬ (0 ≤ cy ∧ cy ≤ 1099511627776)) (w : World) : Calls Try.prog 7 #[.agg #[.int .i64 co, .int .i64 sl, .int .i64 tr, .int .i64 mu, .int .i64 di, .int .i64 ta, .int .i64 ha, .int .i64 is, .int .i64 iw, .int .i64 il, .int .i64 ds, .int .i64 dw, .int .i64 dl, .int .i64 qu, .int .i64 ke], .int .i64 cy, .int .i64 se] w fun e w' => e = .returned (.tuple #[.int .i64 (0), .int .i64 (2)]) ∧ Below w.heap.size w w' := by
  have h1 := Aside0.mk (machValid co sl tr mu di ta ha is iw il ds dw dl qu ke)
  have h2 := Aside0.mk (count cy)
  rw [h] at h1
  rw [decide_eq_false hc] at h2
  clear h hc
  go_enter Try.func7, Try.ntmps7
  go_wp2_with fail
  refine (h1.out _).mono ?_
  rintro e w1 ⟨rfl, hB1⟩
  have HB1 := Aside0.mk hB1
  have hc1 := box_keep hB1 (by simp) (box_new w _ _)
  have hz1 : w.heap.size < w1.heap.size := by have := hB1.size; simp at this; omega
  clear hB1
  go_wp2_with fail
  refine (h2.out _).mono ?_
  rintro e w2 ⟨rfl, hB2⟩
  have HB2 := Aside0.mk hB2
  have hc2 := box_keep hB2 hz1 hc1
  have hz2 : w.heap.size < w2.heap.size := by have := hB2.size; omega
  clear hc1
  clear hB2
  go_wp2
  go_ret2
  exact ⟨rfl, ((((Below.refl w.heap.size w).alloc (Nat.le_refl _) _).trans (HB1.out.mono (by simp))).trans (HB2.out.mono (by omega)))⟩

set_option maxHeartbeats 2000000 in
theorem quantaSe (co sl tr mu di ta ha is iw il ds dw dl qu ke : Int) (cy se : Int) (h : MacB co sl tr mu di ta ha is iw il ds dw dl qu ke = true) (hc : 0 ≤ cy ∧ cy ≤ 1099511627776) (hs : ¬ (0 ≤ se ∧ se ≤ 1099511627776)) (w : World) : Calls Try.prog 7 #[.agg #[.int .i64 co, .int .i64 sl, .int .i64 tr, .int .i64 mu, .int .i64 di, .int .i64 ta, .int .i64 ha, .int .i64 is, .int .i64 iw, .int .i64 il, .int .i64 ds, .int .i64 dw, .int .i64 dl, .int .i64 qu, .int .i64 ke], .int .i64 cy, .int .i64 se] w fun e w' => e = .returned (.tuple #[.int .i64 (0), .int .i64 (2)]) ∧ Below w.heap.size w w' := by
  have h1 := Aside0.mk (machValid co sl tr mu di ta ha is iw il ds dw dl qu ke)
  have h2 := Aside0.mk (count cy)
  have h3 := Aside0.mk (count se)
  rw [h] at h1
  rw [decide_eq_true hc] at h2
  rw [decide_eq_false hs] at h3
  clear h hc hs
  go_enter Try.func7, Try.ntmps7
  go_wp2_with fail
  refine (h1.out _).mono ?_
  rintro e w1 ⟨rfl, hB1⟩
  have HB1 := Aside0.mk hB1
  have hc1 := box_keep hB1 (by simp) (box_new w _ _)
  have hz1 : w.heap.size < w1.heap.size := by have := hB1.size; simp at this; omega
  clear hB1
  go_wp2_with fail
  refine (h2.out _).mono ?_
  rintro e w2 ⟨rfl, hB2⟩
  have HB2 := Aside0.mk hB2
  have hc2 := box_keep hB2 hz1 hc1
  have hz2 : w.heap.size < w2.heap.size := by have := hB2.size; omega
  clear hc1
  clear hB2
  go_wp2_with fail
  refine (h3.out _).mono ?_
  rintro e w3 ⟨rfl, hB3⟩
  have HB3 := Aside0.mk hB3
  have hc3 := box_keep hB3 hz2 hc2
  have hz3 : w.heap.size < w3.heap.size := by have := hB3.size; omega
  clear hc2
  clear hB3
  go_wp2
  go_ret2
  exact ⟨rfl, (((((Below.refl w.heap.size w).alloc (Nat.le_refl _) _).trans (HB1.out.mono (by simp))).trans (HB2.out.mono (by omega))).trans (HB3.out.mono (by omega)))⟩

set_option maxHeartbeats 2000000 in
theorem quantaLow (co sl tr mu di ta ha is iw il ds dw dl qu ke : Int) (cy se : Int) (h : MacB co sl tr mu di ta ha is iw il ds dw dl qu ke = true) (hc : 0 ≤ cy ∧ cy ≤ 1099511627776) (hs : 0 ≤ se ∧ se ≤ 1099511627776) (hu : UsV co sl tr mu di ta ha qu ke se ≤ ReV co sl tr is iw ds dw) (w : World) : Calls Try.prog 7 #[.agg #[.int .i64 co, .int .i64 sl, .int .i64 tr, .int .i64 mu, .int .i64 di, .int .i64 ta, .int .i64 ha, .int .i64 is, .int .i64 iw, .int .i64 il, .int .i64 ds, .int .i64 dw, .int .i64 dl, .int .i64 qu, .int .i64 ke], .int .i64 cy, .int .i64 se] w fun e w' => e = .returned (.tuple #[.int .i64 (0), .int .i64 (20)]) ∧ Below w.heap.size w w' := by
  have h1 := Aside0.mk (machValid co sl tr mu di ta ha is iw il ds dw dl qu ke)
  have h2 := Aside0.mk (count cy)
  have h3 := Aside0.mk (count se)
  have h4 := Aside0.mk (useful co sl tr mu di ta ha is iw il ds dw dl qu ke se h hs)
  have h5 := Aside0.mk (reload co sl tr mu di ta ha is iw il ds dw dl qu ke h)
  obtain ⟨ub1, ub2⟩ := us_bounds co sl tr mu di ta ha is iw il ds dw dl qu ke h hs.1 hs.2
  obtain ⟨_, _, rb1, rb2⟩ := re_bounds co sl tr mu di ta ha is iw il ds dw dl qu ke h
  rw [h] at h1
  rw [decide_eq_true hc] at h2
  rw [decide_eq_true hs] at h3
  obtain ⟨c1, c2⟩ := hc
  clear h hs
  generalize UsV co sl tr mu di ta ha qu ke se = U at *
  generalize ReV co sl tr is iw ds dw = R at *
  have hud : decide (U ≤ R) = true := by simpa using hu
  go_enter Try.func7, Try.ntmps7
  go_wp2_with fail
  refine (h1.out _).mono ?_
  rintro e w1 ⟨rfl, hB1⟩
  have HB1 := Aside0.mk hB1
  have hc1 := box_keep hB1 (by simp) (box_new w _ _)
  have hz1 : w.heap.size < w1.heap.size := by have := hB1.size; simp at this; omega
  clear hB1
  go_wp2_with fail
  refine (h2.out _).mono ?_
  rintro e w2 ⟨rfl, hB2⟩
  have HB2 := Aside0.mk hB2
  have hc2 := box_keep hB2 hz1 hc1
  have hz2 : w.heap.size < w2.heap.size := by have := hB2.size; omega
  clear hc1
  clear hB2
  go_wp2_with fail
  refine (h3.out _).mono ?_
  rintro e w3 ⟨rfl, hB3⟩
  have HB3 := Aside0.mk hB3
  have hc3 := box_keep hB3 hz2 hc2
  have hz3 : w.heap.size < w3.heap.size := by have := hB3.size; omega
  clear hc2
  clear hB3
  go_wp2
  have HC4 := Aside0.mk hc3
  clear hc3
  refine wp_region_quiet (C := fun w' => Below w3.heap.size w3 w') (by kernel_rfl) (by kernel_rfl) ⟨rfl, rfl, rfl, Nat.le_refl _, fun _ _ => rfl⟩ ?_
  have HK4 := Aside0.mk (fun (w' : World) (hw' : Below w3.heap.size w3 w') => box_keep hw' hz3 HC4.out)
  iterate 7
    refine wpQuiet_step (fun K hK => ?_)
    rw [if_pos (by rfl)]
    first
      | (apply quiet_val
         intro w' hw'
         have hc := HK4.out w' hw'
         go_simp
         try exact rfl
         refine hK _ ?_)
      | (apply quiet_call
         intro w' hw'
         go_simp
         first | exact rfl | exact ⟨rfl, rfl⟩
         intro w' hw'
         with_reducible first
             | exact (h4.out _).mono fun e w'' ⟨he, hb⟩ => ⟨he, hw'.trans (hb.mono hw'.size)⟩
             | exact (h5.out _).mono fun e w'' ⟨he, hb⟩ => ⟨he, hw'.trans (hb.mono hw'.size)⟩
         refine hK _ ?_)
    clear hK K
    simp only [Act.put, List.setIfInBounds_toArray, List.set_cons_zero, List.set_cons_succ]
  refine wpQuiet_nil ?_
  intro w4 hB4
  have HB4 := Aside0.mk hB4
  have hc4 := HK4.out _ hB4
  have hz4 : w.heap.size < w4.heap.size := by have := hB4.size; omega
  clear hB4 HK4 HC4
  go_wp2
  go_ret2
  exact ⟨rfl, ((((((Below.refl w.heap.size w).alloc (Nat.le_refl _) _).trans (HB1.out.mono (by simp))).trans (HB2.out.mono (by omega))).trans (HB3.out.mono (by omega))).trans (HB4.out.mono (by omega)))⟩

set_option maxHeartbeats 2000000 in
theorem quanta (co sl tr mu di ta ha is iw il ds dw dl qu ke : Int) (cy se : Int) (h : MacB co sl tr mu di ta ha is iw il ds dw dl qu ke = true) (hc : 0 ≤ cy ∧ cy ≤ 1099511627776) (hs : 0 ≤ se ∧ se ≤ 1099511627776) (hu : ¬ UsV co sl tr mu di ta ha qu ke se ≤ ReV co sl tr is iw ds dw) (w : World) : Calls Try.prog 7 #[.agg #[.int .i64 co, .int .i64 sl, .int .i64 tr, .int .i64 mu, .int .i64 di, .int .i64 ta, .int .i64 ha, .int .i64 is, .int .i64 iw, .int .i64 il, .int .i64 ds, .int .i64 dw, .int .i64 dl, .int .i64 qu, .int .i64 ke], .int .i64 cy, .int .i64 se] w fun e w' => e = .returned (.tuple #[.int .i64 (QuV (UsV co sl tr mu di ta ha qu ke se) (ReV co sl tr is iw ds dw) cy), .int .i64 (0)]) ∧ Below w.heap.size w w' := by
  have h1 := Aside0.mk (machValid co sl tr mu di ta ha is iw il ds dw dl qu ke)
  have h2 := Aside0.mk (count cy)
  have h3 := Aside0.mk (count se)
  have h4 := Aside0.mk (useful co sl tr mu di ta ha is iw il ds dw dl qu ke se h hs)
  have h5 := Aside0.mk (reload co sl tr mu di ta ha is iw il ds dw dl qu ke h)
  obtain ⟨ub1, ub2⟩ := us_bounds co sl tr mu di ta ha is iw il ds dw dl qu ke h hs.1 hs.2
  obtain ⟨_, _, rb1, rb2⟩ := re_bounds co sl tr mu di ta ha is iw il ds dw dl qu ke h
  rw [h] at h1
  rw [decide_eq_true hc] at h2
  rw [decide_eq_true hs] at h3
  obtain ⟨c1, c2⟩ := hc
  clear h hs
  generalize UsV co sl tr mu di ta ha qu ke se = U at *
  generalize ReV co sl tr is iw ds dw = R at *
  have hud : decide (U ≤ R) = false := by simpa using hu
  go_enter Try.func7, Try.ntmps7
  go_wp2_with fail
  refine (h1.out _).mono ?_
  rintro e w1 ⟨rfl, hB1⟩
  have HB1 := Aside0.mk hB1
  have hc1 := box_keep hB1 (by simp) (box_new w _ _)
  have hz1 : w.heap.size < w1.heap.size := by have := hB1.size; simp at this; omega
  clear hB1
  go_wp2_with fail
  refine (h2.out _).mono ?_
  rintro e w2 ⟨rfl, hB2⟩
  have HB2 := Aside0.mk hB2
  have hc2 := box_keep hB2 hz1 hc1
  have hz2 : w.heap.size < w2.heap.size := by have := hB2.size; omega
  clear hc1
  clear hB2
  go_wp2_with fail
  refine (h3.out _).mono ?_
  rintro e w3 ⟨rfl, hB3⟩
  have HB3 := Aside0.mk hB3
  have hc3 := box_keep hB3 hz2 hc2
  have hz3 : w.heap.size < w3.heap.size := by have := hB3.size; omega
  clear hc2
  clear hB3
  go_wp2
  have HC4 := Aside0.mk hc3
  clear hc3
  refine wp_region_quiet (C := fun w' => Below w3.heap.size w3 w') (by kernel_rfl) (by kernel_rfl) ⟨rfl, rfl, rfl, Nat.le_refl _, fun _ _ => rfl⟩ ?_
  have HK4 := Aside0.mk (fun (w' : World) (hw' : Below w3.heap.size w3 w') => box_keep hw' hz3 HC4.out)
  iterate 7
    refine wpQuiet_step (fun K hK => ?_)
    rw [if_pos (by rfl)]
    first
      | (apply quiet_val
         intro w' hw'
         have hc := HK4.out w' hw'
         go_simp
         try exact rfl
         refine hK _ ?_)
      | (apply quiet_call
         intro w' hw'
         go_simp
         first | exact rfl | exact ⟨rfl, rfl⟩
         intro w' hw'
         with_reducible first
             | exact (h4.out _).mono fun e w'' ⟨he, hb⟩ => ⟨he, hw'.trans (hb.mono hw'.size)⟩
             | exact (h5.out _).mono fun e w'' ⟨he, hb⟩ => ⟨he, hw'.trans (hb.mono hw'.size)⟩
         refine hK _ ?_)
    clear hK K
    simp only [Act.put, List.setIfInBounds_toArray, List.set_cons_zero, List.set_cons_succ]
  refine wpQuiet_nil ?_
  intro w4 hB4
  have HB4 := Aside0.mk hB4
  have hc4 := HK4.out _ hB4
  have hz4 : w.heap.size < w4.heap.size := by have := hB4.size; omega
  clear hB4 HK4 HC4
  go_wp2
  all_goals go_ret2
  all_goals exact ⟨tret (by have := mx_one_tdiv (n := (cy - R) + (U - R) - 1) (d := U - R) (by omega); unfold QuV; rw [← this]; unfold mx; (repeat' split) <;> omega) rfl, ((((((Below.refl w.heap.size w).alloc (Nat.le_refl _) _).trans (HB1.out.mono (by simp))).trans (HB2.out.mono (by omega))).trans (HB3.out.mono (by omega))).trans (HB4.out.mono (by omega)))⟩

set_option maxHeartbeats 2000000 in
theorem refTransfer (co sl tr mu di ta ha is iw il ds dw dl qu ke : Int) (h : BusB co sl tr = true) (w : World) : Calls Try.prog 25 #[.agg #[.int .i64 co, .int .i64 sl, .int .i64 tr, .int .i64 mu, .int .i64 di, .int .i64 ta, .int .i64 ha, .int .i64 is, .int .i64 iw, .int .i64 il, .int .i64 ds, .int .i64 dw, .int .i64 dl, .int .i64 qu, .int .i64 ke]] w fun e w' => e = .returned (.int .i64 (TrV co sl tr)) ∧ Below w.heap.size w w' := by
  obtain ⟨⟨b1, b2, b3, b4, b5⟩, b6, b7⟩ := bus_bounds h
  go_enter Try.func25, Try.ntmps25
  go_wp2
  go_ret
  exact ⟨rfl, ((Below.refl w.heap.size w).alloc (Nat.le_refl _) _)⟩

set_option maxHeartbeats 2000000 in
theorem refReload (co sl tr mu di ta ha is iw il ds dw dl qu ke : Int) (h : MacB co sl tr mu di ta ha is iw il ds dw dl qu ke = true) (w : World) : Calls Try.prog 12 #[.agg #[.int .i64 co, .int .i64 sl, .int .i64 tr, .int .i64 mu, .int .i64 di, .int .i64 ta, .int .i64 ha, .int .i64 is, .int .i64 iw, .int .i64 il, .int .i64 ds, .int .i64 dw, .int .i64 dl, .int .i64 qu, .int .i64 ke]] w fun e w' => e = .returned (.int .i64 (ReV co sl tr is iw ds dw)) ∧ Below w.heap.size w w' := by
  have hR := Aside0.mk (re_bounds co sl tr mu di ta ha is iw il ds dw dl qu ke h)
  obtain ⟨a, b, c, d, e⟩ := mac_parts co sl tr mu di ta ha is iw il ds dw dl qu ke h
  have hI := Aside0.mk (cac_bounds c)
  have hD := Aside0.mk (cac_bounds d)
  have h1 := Aside0.mk (refTransfer co sl tr mu di ta ha is iw il ds dw dl qu ke a)
  clear h a b c d e
  go_enter Try.func12, Try.ntmps12
  go_wp2
  have HC1 := Aside0.mk (box_new w (#[.int .i64 co, .int .i64 sl, .int .i64 tr, .int .i64 mu, .int .i64 di, .int .i64 ta, .int .i64 ha, .int .i64 is, .int .i64 iw, .int .i64 il, .int .i64 ds, .int .i64 dw, .int .i64 dl, .int .i64 qu, .int .i64 ke]) 27)
  have hz0 : w.heap.size < ((w.alloc (.cells (#[.int .i64 co, .int .i64 sl, .int .i64 tr, .int .i64 mu, .int .i64 di, .int .i64 ta, .int .i64 ha, .int .i64 is, .int .i64 iw, .int .i64 il, .int .i64 ds, .int .i64 dw, .int .i64 dl, .int .i64 qu, .int .i64 ke]) 27))).heap.size := by simp
  refine wp_region_quiet (C := fun w' => Below (w.alloc (.cells (#[.int .i64 co, .int .i64 sl, .int .i64 tr, .int .i64 mu, .int .i64 di, .int .i64 ta, .int .i64 ha, .int .i64 is, .int .i64 iw, .int .i64 il, .int .i64 ds, .int .i64 dw, .int .i64 dl, .int .i64 qu, .int .i64 ke]) 27)).heap.size (w.alloc (.cells (#[.int .i64 co, .int .i64 sl, .int .i64 tr, .int .i64 mu, .int .i64 di, .int .i64 ta, .int .i64 ha, .int .i64 is, .int .i64 iw, .int .i64 il, .int .i64 ds, .int .i64 dw, .int .i64 dl, .int .i64 qu, .int .i64 ke]) 27)) w') (by kernel_rfl) (by kernel_rfl) ⟨rfl, rfl, rfl, Nat.le_refl _, fun _ _ => rfl⟩ ?_
  have HK1 := Aside0.mk (fun (w' : World) (hw' : Below (w.alloc (.cells (#[.int .i64 co, .int .i64 sl, .int .i64 tr, .int .i64 mu, .int .i64 di, .int .i64 ta, .int .i64 ha, .int .i64 is, .int .i64 iw, .int .i64 il, .int .i64 ds, .int .i64 dw, .int .i64 dl, .int .i64 qu, .int .i64 ke]) 27)).heap.size (w.alloc (.cells (#[.int .i64 co, .int .i64 sl, .int .i64 tr, .int .i64 mu, .int .i64 di, .int .i64 ta, .int .i64 ha, .int .i64 is, .int .i64 iw, .int .i64 il, .int .i64 ds, .int .i64 dw, .int .i64 dl, .int .i64 qu, .int .i64 ke]) 27)) w') => box_keep hw' hz0 HC1.out)
  iterate 19
    refine wpQuiet_step (fun K hK => ?_)
    rw [if_pos (by rfl)]
    first
      | (apply quiet_val
         intro w' hw'
         have hc := HK1.out w' hw'
         go_simp
         try exact rfl
         refine hK _ ?_)
      | (apply quiet_call
         intro w' hw'
         go_simp
         first | exact rfl | exact ⟨rfl, rfl⟩
         intro w' hw'
         with_reducible first
             | exact (h1.out _).mono fun e w'' ⟨he, hb⟩ => ⟨he, hw'.trans (hb.mono hw'.size)⟩
         refine hK _ ?_)
    clear hK K
    simp only [Act.put, List.setIfInBounds_toArray, List.set_cons_zero, List.set_cons_succ]
  refine wpQuiet_nil ?_
  intro w1 hB1
  have HB1 := Aside0.mk hB1
  have hc1 := HK1.out _ hB1
  have hz1 : w.heap.size < w1.heap.size := by have := hB1.size; omega
  clear hB1 HK1 HC1
  go_wp2
  go_ret
  exact ⟨iret (by have := hR.out; have := hI.out; have := hD.out; unfold ReV at *; simp only [wrapEq]; rw [w64 (x := is * iw) (by omega) (by omega), w64 (x := ds * dw) (by omega) (by omega), w64 (x := is * iw + ds * dw) (by omega) (by omega), w64 (by omega) (by omega)]), (((Below.refl w.heap.size w).alloc (Nat.le_refl _) _).trans (HB1.out.mono (by simp)))⟩

set_option maxHeartbeats 2000000 in
theorem refMaxInstr (co sl tr mu di ta ha is iw il ds dw dl qu ke : Int) (h : MacB co sl tr mu di ta ha is iw il ds dw dl qu ke = true) (w : World) : Calls Try.prog 26 #[.agg #[.int .i64 co, .int .i64 sl, .int .i64 tr, .int .i64 mu, .int .i64 di, .int .i64 ta, .int .i64 ha, .int .i64 is, .int .i64 iw, .int .i64 il, .int .i64 ds, .int .i64 dw, .int .i64 dl, .int .i64 qu, .int .i64 ke]] w fun e w' => e = .returned (.int .i64 (MiV co sl tr mu di ta ha)) ∧ Below w.heap.size w w' := by
  have hM := Aside0.mk (mi_bounds co sl tr mu di ta ha is iw il ds dw dl qu ke h)
  obtain ⟨a, b, c, d, e⟩ := mac_parts co sl tr mu di ta ha is iw il ds dw dl qu ke h
  have hT := Aside0.mk (tr_bounds a)
  obtain ⟨⟨b1, b2, b3, b4, b5⟩, b6, b7⟩ := bus_bounds a
  obtain ⟨p1, p2, p3, p4, p5, p6, p7, p8⟩ := pip_bounds b
  clear h a b c d e
  go_enter Try.func26, Try.ntmps26
  go_wp2
  all_goals go_ret
  all_goals exact ⟨iret (by have := hM.out; have := hT.out; unfold MiV TrV mx at *; (repeat' split) <;> omega), ((Below.refl w.heap.size w).alloc (Nat.le_refl _) _)⟩

set_option maxHeartbeats 2000000 in
theorem refUseful (co sl tr mu di ta ha is iw il ds dw dl qu ke : Int) (se : Int) (h : MacB co sl tr mu di ta ha is iw il ds dw dl qu ke = true) (hs : 0 ≤ se ∧ se ≤ 1099511627776) (w : World) : Calls Try.prog 14 #[.agg #[.int .i64 co, .int .i64 sl, .int .i64 tr, .int .i64 mu, .int .i64 di, .int .i64 ta, .int .i64 ha, .int .i64 is, .int .i64 iw, .int .i64 il, .int .i64 ds, .int .i64 dw, .int .i64 dl, .int .i64 qu, .int .i64 ke], .int .i64 se] w fun e w' => e = .returned (.int .i64 (UsV co sl tr mu di ta ha qu ke se)) ∧ Below w.heap.size w w' := by
  obtain ⟨u1, u2⟩ := us_bounds co sl tr mu di ta ha is iw il ds dw dl qu ke h hs.1 hs.2
  obtain ⟨m1, m2⟩ := mi_bounds co sl tr mu di ta ha is iw il ds dw dl qu ke h
  obtain ⟨z1, z2⟩ := zo_bounds co sl tr mu di ta ha is iw il ds dw dl qu ke h hs.1 hs.2
  obtain ⟨_, _, _, _, q1, q2, q3, q4⟩ := mac_parts co sl tr mu di ta ha is iw il ds dw dl qu ke h
  have h1 := Aside0.mk (refMaxInstr co sl tr mu di ta ha is iw il ds dw dl qu ke h)
  clear h hs
  unfold UsV at *
  generalize MiV co sl tr mu di ta ha = M at *
  go_enter Try.func14, Try.ntmps14
  go_wp2_with fail
  refine (h1.out _).mono ?_
  rintro e w1 ⟨rfl, hB1⟩
  have HB1 := Aside0.mk hB1
  have hc1 := box_keep hB1 (by simp) (box_new w _ _)
  have hz1 : w.heap.size < w1.heap.size := by have := hB1.size; simp at this; omega
  clear hB1
  go_wp2
  all_goals go_ret
  all_goals exact ⟨iret (by unfold mx at *; (repeat' split) <;> omega), (((Below.refl w.heap.size w).alloc (Nat.le_refl _) _).trans (HB1.out.mono (by simp)))⟩

set_option maxHeartbeats 2000000 in
theorem refQuantaLow (co sl tr mu di ta ha is iw il ds dw dl qu ke : Int) (cy se : Int) (h : MacB co sl tr mu di ta ha is iw il ds dw dl qu ke = true) (hc : 0 ≤ cy ∧ cy ≤ 1099511627776) (hs : 0 ≤ se ∧ se ≤ 1099511627776) (hu : UsV co sl tr mu di ta ha qu ke se ≤ ReV co sl tr is iw ds dw) (w : World) : Calls Try.prog 15 #[.agg #[.int .i64 co, .int .i64 sl, .int .i64 tr, .int .i64 mu, .int .i64 di, .int .i64 ta, .int .i64 ha, .int .i64 is, .int .i64 iw, .int .i64 il, .int .i64 ds, .int .i64 dw, .int .i64 dl, .int .i64 qu, .int .i64 ke], .int .i64 cy, .int .i64 se] w fun e w' => e = .returned (.int .i64 0) ∧ Below w.heap.size w w' := by
  have h4 := Aside0.mk (refUseful co sl tr mu di ta ha is iw il ds dw dl qu ke se h hs)
  have h5 := Aside0.mk (refReload co sl tr mu di ta ha is iw il ds dw dl qu ke h)
  obtain ⟨ub1, ub2⟩ := us_bounds co sl tr mu di ta ha is iw il ds dw dl qu ke h hs.1 hs.2
  obtain ⟨_, _, rb1, rb2⟩ := re_bounds co sl tr mu di ta ha is iw il ds dw dl qu ke h
  obtain ⟨c1, c2⟩ := hc
  clear h hs
  generalize UsV co sl tr mu di ta ha qu ke se = U at *
  generalize ReV co sl tr is iw ds dw = R at *
  have hud : decide (U ≤ R) = true := by simpa using hu
  go_enter Try.func15, Try.ntmps15
  go_wp2
  have HC1 := Aside0.mk (box_new w (#[.int .i64 co, .int .i64 sl, .int .i64 tr, .int .i64 mu, .int .i64 di, .int .i64 ta, .int .i64 ha, .int .i64 is, .int .i64 iw, .int .i64 il, .int .i64 ds, .int .i64 dw, .int .i64 dl, .int .i64 qu, .int .i64 ke]) 27)
  have hz0 : w.heap.size < ((w.alloc (.cells (#[.int .i64 co, .int .i64 sl, .int .i64 tr, .int .i64 mu, .int .i64 di, .int .i64 ta, .int .i64 ha, .int .i64 is, .int .i64 iw, .int .i64 il, .int .i64 ds, .int .i64 dw, .int .i64 dl, .int .i64 qu, .int .i64 ke]) 27))).heap.size := by simp
  refine wp_region_quiet (C := fun w' => Below (w.alloc (.cells (#[.int .i64 co, .int .i64 sl, .int .i64 tr, .int .i64 mu, .int .i64 di, .int .i64 ta, .int .i64 ha, .int .i64 is, .int .i64 iw, .int .i64 il, .int .i64 ds, .int .i64 dw, .int .i64 dl, .int .i64 qu, .int .i64 ke]) 27)).heap.size (w.alloc (.cells (#[.int .i64 co, .int .i64 sl, .int .i64 tr, .int .i64 mu, .int .i64 di, .int .i64 ta, .int .i64 ha, .int .i64 is, .int .i64 iw, .int .i64 il, .int .i64 ds, .int .i64 dw, .int .i64 dl, .int .i64 qu, .int .i64 ke]) 27)) w') (by kernel_rfl) (by kernel_rfl) ⟨rfl, rfl, rfl, Nat.le_refl _, fun _ _ => rfl⟩ ?_
  have HK1 := Aside0.mk (fun (w' : World) (hw' : Below (w.alloc (.cells (#[.int .i64 co, .int .i64 sl, .int .i64 tr, .int .i64 mu, .int .i64 di, .int .i64 ta, .int .i64 ha, .int .i64 is, .int .i64 iw, .int .i64 il, .int .i64 ds, .int .i64 dw, .int .i64 dl, .int .i64 qu, .int .i64 ke]) 27)).heap.size (w.alloc (.cells (#[.int .i64 co, .int .i64 sl, .int .i64 tr, .int .i64 mu, .int .i64 di, .int .i64 ta, .int .i64 ha, .int .i64 is, .int .i64 iw, .int .i64 il, .int .i64 ds, .int .i64 dw, .int .i64 dl, .int .i64 qu, .int .i64 ke]) 27)) w') => box_keep hw' hz0 HC1.out)
  iterate 7
    refine wpQuiet_step (fun K hK => ?_)
    rw [if_pos (by rfl)]
    first
      | (apply quiet_val
         intro w' hw'
         have hc := HK1.out w' hw'
         go_simp
         try exact rfl
         refine hK _ ?_)
      | (apply quiet_call
         intro w' hw'
         go_simp
         first | exact rfl | exact ⟨rfl, rfl⟩
         intro w' hw'
         with_reducible first
             | exact (h4.out _).mono fun e w'' ⟨he, hb⟩ => ⟨he, hw'.trans (hb.mono hw'.size)⟩
             | exact (h5.out _).mono fun e w'' ⟨he, hb⟩ => ⟨he, hw'.trans (hb.mono hw'.size)⟩
         refine hK _ ?_)
    clear hK K
    simp only [Act.put, List.setIfInBounds_toArray, List.set_cons_zero, List.set_cons_succ]
  refine wpQuiet_nil ?_
  intro w1 hB1
  have HB1 := Aside0.mk hB1
  have hc1 := HK1.out _ hB1
  have hz1 : w.heap.size < w1.heap.size := by have := hB1.size; omega
  clear hB1 HK1 HC1
  go_wp2
  go_ret
  exact ⟨rfl, (((Below.refl w.heap.size w).alloc (Nat.le_refl _) _).trans (HB1.out.mono (by simp)))⟩

theorem quv {U R cy : Int} (hu : ¬ U ≤ R) : QuV U R cy = if cy ≤ U then 1 else (cy - R + U - R - 1) / (U - R) := by
  unfold QuV mx
  have e : cy - R + (U - R) - 1 = cy - R + U - R - 1 := by omega
  rw [e]
  by_cases h : cy ≤ U
  · rw [if_pos h, if_neg]
    have h1 : (cy - R + U - R - 1) / (U - R) < 2 := Int.ediv_lt_of_lt_mul (by omega) (by omega)
    omega
  · rw [if_neg h]
    have h1 : 2 ≤ (cy - R + U - R - 1) / (U - R) := Int.le_ediv_of_mul_le (by omega) (by omega)
    rw [if_pos (by omega)]
theorem quv_pos {U R cy : Int} : 1 ≤ QuV U R cy := by unfold QuV mx; split <;> omega

set_option maxHeartbeats 2000000 in
theorem refQuanta (co sl tr mu di ta ha is iw il ds dw dl qu ke : Int) (cy se : Int) (h : MacB co sl tr mu di ta ha is iw il ds dw dl qu ke = true) (hc : 0 ≤ cy ∧ cy ≤ 1099511627776) (hs : 0 ≤ se ∧ se ≤ 1099511627776) (hu : ¬ UsV co sl tr mu di ta ha qu ke se ≤ ReV co sl tr is iw ds dw) (w : World) : Calls Try.prog 15 #[.agg #[.int .i64 co, .int .i64 sl, .int .i64 tr, .int .i64 mu, .int .i64 di, .int .i64 ta, .int .i64 ha, .int .i64 is, .int .i64 iw, .int .i64 il, .int .i64 ds, .int .i64 dw, .int .i64 dl, .int .i64 qu, .int .i64 ke], .int .i64 cy, .int .i64 se] w fun e w' => e = .returned (.int .i64 (QuV (UsV co sl tr mu di ta ha qu ke se) (ReV co sl tr is iw ds dw) cy)) ∧ Below w.heap.size w w' := by
  have h4 := Aside0.mk (refUseful co sl tr mu di ta ha is iw il ds dw dl qu ke se h hs)
  have h5 := Aside0.mk (refReload co sl tr mu di ta ha is iw il ds dw dl qu ke h)
  obtain ⟨ub1, ub2⟩ := us_bounds co sl tr mu di ta ha is iw il ds dw dl qu ke h hs.1 hs.2
  obtain ⟨_, _, rb1, rb2⟩ := re_bounds co sl tr mu di ta ha is iw il ds dw dl qu ke h
  obtain ⟨c1, c2⟩ := hc
  clear h hs
  generalize UsV co sl tr mu di ta ha qu ke se = U at *
  generalize ReV co sl tr is iw ds dw = R at *
  have hud : decide (U ≤ R) = false := by simpa using hu
  have hQ := Aside0.mk (quv (cy := cy) hu)
  go_enter Try.func15, Try.ntmps15
  go_wp2
  have HC1 := Aside0.mk (box_new w (#[.int .i64 co, .int .i64 sl, .int .i64 tr, .int .i64 mu, .int .i64 di, .int .i64 ta, .int .i64 ha, .int .i64 is, .int .i64 iw, .int .i64 il, .int .i64 ds, .int .i64 dw, .int .i64 dl, .int .i64 qu, .int .i64 ke]) 27)
  have hz0 : w.heap.size < ((w.alloc (.cells (#[.int .i64 co, .int .i64 sl, .int .i64 tr, .int .i64 mu, .int .i64 di, .int .i64 ta, .int .i64 ha, .int .i64 is, .int .i64 iw, .int .i64 il, .int .i64 ds, .int .i64 dw, .int .i64 dl, .int .i64 qu, .int .i64 ke]) 27))).heap.size := by simp
  refine wp_region_quiet (C := fun w' => Below (w.alloc (.cells (#[.int .i64 co, .int .i64 sl, .int .i64 tr, .int .i64 mu, .int .i64 di, .int .i64 ta, .int .i64 ha, .int .i64 is, .int .i64 iw, .int .i64 il, .int .i64 ds, .int .i64 dw, .int .i64 dl, .int .i64 qu, .int .i64 ke]) 27)).heap.size (w.alloc (.cells (#[.int .i64 co, .int .i64 sl, .int .i64 tr, .int .i64 mu, .int .i64 di, .int .i64 ta, .int .i64 ha, .int .i64 is, .int .i64 iw, .int .i64 il, .int .i64 ds, .int .i64 dw, .int .i64 dl, .int .i64 qu, .int .i64 ke]) 27)) w') (by kernel_rfl) (by kernel_rfl) ⟨rfl, rfl, rfl, Nat.le_refl _, fun _ _ => rfl⟩ ?_
  have HK1 := Aside0.mk (fun (w' : World) (hw' : Below (w.alloc (.cells (#[.int .i64 co, .int .i64 sl, .int .i64 tr, .int .i64 mu, .int .i64 di, .int .i64 ta, .int .i64 ha, .int .i64 is, .int .i64 iw, .int .i64 il, .int .i64 ds, .int .i64 dw, .int .i64 dl, .int .i64 qu, .int .i64 ke]) 27)).heap.size (w.alloc (.cells (#[.int .i64 co, .int .i64 sl, .int .i64 tr, .int .i64 mu, .int .i64 di, .int .i64 ta, .int .i64 ha, .int .i64 is, .int .i64 iw, .int .i64 il, .int .i64 ds, .int .i64 dw, .int .i64 dl, .int .i64 qu, .int .i64 ke]) 27)) w') => box_keep hw' hz0 HC1.out)
  iterate 7
    refine wpQuiet_step (fun K hK => ?_)
    rw [if_pos (by rfl)]
    first
      | (apply quiet_val
         intro w' hw'
         have hc := HK1.out w' hw'
         go_simp
         try exact rfl
         refine hK _ ?_)
      | (apply quiet_call
         intro w' hw'
         go_simp
         first | exact rfl | exact ⟨rfl, rfl⟩
         intro w' hw'
         with_reducible first
             | exact (h4.out _).mono fun e w'' ⟨he, hb⟩ => ⟨he, hw'.trans (hb.mono hw'.size)⟩
             | exact (h5.out _).mono fun e w'' ⟨he, hb⟩ => ⟨he, hw'.trans (hb.mono hw'.size)⟩
         refine hK _ ?_)
    clear hK K
    simp only [Act.put, List.setIfInBounds_toArray, List.set_cons_zero, List.set_cons_succ]
  refine wpQuiet_nil ?_
  intro w1 hB1
  have HB1 := Aside0.mk hB1
  have hc1 := HK1.out _ hB1
  have hz1 : w.heap.size < w1.heap.size := by have := hB1.size; omega
  clear hB1 HK1 HC1
  by_cases hcu : cy ≤ U
  · go_wp2
    go_ret
    exact ⟨iret (by rw [hQ.out, if_pos hcu]), (((Below.refl w.heap.size w).alloc (Nat.le_refl _) _).trans (HB1.out.mono (by simp)))⟩
  · go_wp2
    go_ret
    exact ⟨iret (by rw [hQ.out, if_neg (by omega)]), (((Below.refl w.heap.size w).alloc (Nat.le_refl _) _).trans (HB1.out.mono (by simp)))⟩

end Go.Proofs.Ytmdbbfoejmakdaa.Hn

-- LAID BY A PROGRAM OF THIS SESSION (see NOTES.md), Lean checks it.
import Derived.Test.YtmdbbfoejmakdaaDoorPx0
namespace Go.Proofs.YtmdbbfoejmakdaaDoor.P
open Go.RowKit Go.Proofs.YtmdbbfoejmakdaaDoorW.PrintWords Go.Proofs.YtmdbbfoejmakdaaDoorW.PrintLast Go.Proofs.YtmdbbfoejmakdaaDoorW.PrintMore
set_option linter.unusedVariables false
set_option linter.unusedSimpArgs false

/-! ### ontimeref12_Equal: function 38 -/
mutual
def ontimeref12_Equal.j0 : Nat → Bool → Int → Int → ByteArray → List (S24) → Int → Int → ByteArray → List (S24) → Option (Bool)
  | 0, _, _, _, _, _, _, _, _, _ => none
  | k + 1, x33, x181000, x181001, x181002, x181003, x182000, x182001, x182002, x182003 => if x33 = true then (some false) else (ontimeref12_Equal.l0 k 0 x181000 x181001 x181002 x181003 x182000 x182001 x182002 x182003)
def ontimeref12_Equal.l0 : Nat → Int → Int → Int → ByteArray → List (S24) → Int → Int → ByteArray → List (S24) → Option (Bool)
  | 0, _, _, _, _, _, _, _, _, _ => none
  | k + 1, x5, x181000, x181001, x181002, x181003, x182000, x182001, x182002, x182003 => if x5 < (x181003.length : Int) then (if 0 ≤ x5 then (if x5 < (x182003.length : Int) then ((ontimeref12_Equal.f k ((rd_T24 x181003 x5).f0) ((rd_T24 x181003 x5).f1) ((rd_T24 x181003 x5).f2) ((rd_T24 x181003 x5).f3) ((rd_T24 x182003 x5).f0) ((rd_T24 x182003 x5).f1) ((rd_T24 x182003 x5).f2) ((rd_T24 x182003 x5).f3)).bind fun t184 => (if t184 = true then (ontimeref12_Equal.l0 k (wrap64 (x5 + 1)) x181000 x181001 x181002 x181003 x182000 x182001 x182002 x182003) else (some false))) else (none)) else (none)) else (some true)
def ontimeref12_Equal.f : Nat → Int → Int → ByteArray → List (S24) → Int → Int → ByteArray → List (S24) → Option (Bool)
  | 0, _, _, _, _, _, _, _, _ => none
  | k + 1, a0_0, a0_1, a0_2, l0_3, a1_0, a1_1, a1_2, l1_3 => if a0_0 = a1_0 then (if a0_1 = a1_1 then (if a0_2.toList = a1_2.toList then (ontimeref12_Equal.j0 k ((l0_3.length : Int) != (l1_3.length : Int)) a0_0 a0_1 a0_2 l0_3 a1_0 a1_1 a1_2 l1_3) else (ontimeref12_Equal.j0 k true a0_0 a0_1 a0_2 l0_3 a1_0 a1_1 a1_2 l1_3)) else (ontimeref12_Equal.j0 k true a0_0 a0_1 a0_2 l0_3 a1_0 a1_1 a1_2 l1_3)) else (ontimeref12_Equal.j0 k true a0_0 a0_1 a0_2 l0_3 a1_0 a1_1 a1_2 l1_3)
end
theorem ontimeref12_Equal.mono_l : ∀ k, (∀ y0 y1 y2 y3 y4 y5 y6 y7, LeO (ontimeref12_Equal.f k y0 y1 y2 y3 y4 y5 y6 y7) (ontimeref12_Equal.f (k + 1) y0 y1 y2 y3 y4 y5 y6 y7)) ∧ (∀ y0 y1 y2 y3 y4 y5 y6 y7 y8, LeO (ontimeref12_Equal.j0 k y0 y1 y2 y3 y4 y5 y6 y7 y8) (ontimeref12_Equal.j0 (k + 1) y0 y1 y2 y3 y4 y5 y6 y7 y8)) ∧ (∀ y0 y1 y2 y3 y4 y5 y6 y7 y8, LeO (ontimeref12_Equal.l0 k y0 y1 y2 y3 y4 y5 y6 y7 y8) (ontimeref12_Equal.l0 (k + 1) y0 y1 y2 y3 y4 y5 y6 y7 y8))
  | 0 => ⟨fun _ _ _ _ _ _ _ _ r h => by simp [ontimeref12_Equal.f] at h, fun _ _ _ _ _ _ _ _ _ r h => by simp [ontimeref12_Equal.j0] at h, fun _ _ _ _ _ _ _ _ _ r h => by simp [ontimeref12_Equal.l0] at h⟩
  | k + 1 => by
    obtain ⟨ih0, ih1, ih2⟩ := ontimeref12_Equal.mono_l k
    refine ⟨?_, ?_, ?_⟩
    · intro y0 y1 y2 y3 y4 y5 y6 y7
      unfold ontimeref12_Equal.f
      repeat' first
      | (with_reducible exact ih0 _ _ _ _ _ _ _ _)
      | (with_reducible exact ih1 _ _ _ _ _ _ _ _ _)
      | (with_reducible exact ih2 _ _ _ _ _ _ _ _ _)
      | (with_reducible exact LeO.refl _)
      | (with_reducible exact LeO.none _)
      | (with_reducible refine LeO.ite ?_ ?_)
      | (with_reducible refine LeO.bind ?_ (fun _ => ?_))
      | exact ih0 _ _ _ _ _ _ _ _
      | exact ih1 _ _ _ _ _ _ _ _ _
      | exact ih2 _ _ _ _ _ _ _ _ _
      | exact LeO.none _
      | refine LeO.ite ?_ ?_
      | refine LeO.bind ?_ (fun _ => ?_)
    · intro y0 y1 y2 y3 y4 y5 y6 y7 y8
      unfold ontimeref12_Equal.j0
      repeat' first
      | (with_reducible exact ih0 _ _ _ _ _ _ _ _)
      | (with_reducible exact ih1 _ _ _ _ _ _ _ _ _)
      | (with_reducible exact ih2 _ _ _ _ _ _ _ _ _)
      | (with_reducible exact LeO.refl _)
      | (with_reducible exact LeO.none _)
      | (with_reducible refine LeO.ite ?_ ?_)
      | (with_reducible refine LeO.bind ?_ (fun _ => ?_))
      | exact ih0 _ _ _ _ _ _ _ _
      | exact ih1 _ _ _ _ _ _ _ _ _
      | exact ih2 _ _ _ _ _ _ _ _ _
      | exact LeO.none _
      | refine LeO.ite ?_ ?_
      | refine LeO.bind ?_ (fun _ => ?_)
    · intro y0 y1 y2 y3 y4 y5 y6 y7 y8
      unfold ontimeref12_Equal.l0
      repeat' first
      | (with_reducible exact ih0 _ _ _ _ _ _ _ _)
      | (with_reducible exact ih1 _ _ _ _ _ _ _ _ _)
      | (with_reducible exact ih2 _ _ _ _ _ _ _ _ _)
      | (with_reducible exact LeO.refl _)
      | (with_reducible exact LeO.none _)
      | (with_reducible refine LeO.ite ?_ ?_)
      | (with_reducible refine LeO.bind ?_ (fun _ => ?_))
      | exact ih0 _ _ _ _ _ _ _ _
      | exact ih1 _ _ _ _ _ _ _ _ _
      | exact ih2 _ _ _ _ _ _ _ _ _
      | exact LeO.none _
      | refine LeO.ite ?_ ?_
      | refine LeO.bind ?_ (fun _ => ?_)
theorem ontimeref12_Equal.mono : ∀ a0 a1 a2 a3 a4 a5 a6 a7 k, LeO (ontimeref12_Equal.f k a0 a1 a2 a3 a4 a5 a6 a7) (ontimeref12_Equal.f (k + 1) a0 a1 a2 a3 a4 a5 a6 a7) := by
  intro a0 a1 a2 a3 a4 a5 a6 a7 k
  obtain ⟨ih0, ih1, ih2⟩ := ontimeref12_Equal.mono_l k
  exact ih0 a0 a1 a2 a3 a4 a5 a6 a7
def ontimeref12_Equal.T6 : Bool × List (List Nat × List Nat) := (true, [([], []), ([0], [0]), ([], []), ([1, 2], [1, 2]), ([3], [3]), ([], []), ([5], [5]), ([], []), ([6, 7], [6, 7]), ([8], [8]), ([4, 9], [4, 9]), ([10], [10])])
def ontimeref12_Equal.B6 : List Nat := [0, 1, 0, 7, 15, 0, 32, 0, 224, 480, 1023, 2047]
theorem ontimeref12_Equal.tab6 : rtab .any (opsOf Tryd.f38 6) = ontimeref12_Equal.T6 := by kernel_rfl
theorem ontimeref12_Equal.bits6 : waitsOk ontimeref12_Equal.T6.2 ontimeref12_Equal.B6 = true := by kernel_rfl
set_option maxHeartbeats 8000000 in
set_option maxRecDepth 100000 in
theorem ontimeref12_Equal.calls (k : Nat) : ∀ (a0_0 : Int) (a0_1 : Int) (a0_2 : ByteArray) (A0_3 : Option Addr) (c0_3 : Nat) (l0_3 : List (S24)) (a1_0 : Int) (a1_1 : Int) (a1_2 : ByteArray) (A1_3 : Option Addr) (c1_3 : Nat) (l1_3 : List (S24)) (r : Bool) (w : World) (hr0_3 : Kd.C k24 w A0_3 l0_3.length l0_3) (hc0_3 : l0_3.length ≤ c0_3) (hr1_3 : Kd.C k24 w A1_3 l1_3.length l1_3) (hc1_3 : l1_3.length ≤ c1_3) (h : ontimeref12_Equal.f k a0_0 a0_1 a0_2 l0_3 a1_0 a1_1 a1_2 l1_3 = some r),
    Calls Tryd.prog 38 #[.agg #[.int .u8 a0_0, .int .i64 a0_1, .string a0_2, .slice A0_3 l0_3.length c0_3], .agg #[.int .u8 a1_0, .int .i64 a1_1, .string a1_2, .slice A1_3 l1_3.length c1_3]] w fun e w' => e = .returned (.bool r) ∧ Below w.heap.size w w' := by
  induction k using Nat.strongRecOn with
  | _ k ih =>
  intro a0_0 a0_1 a0_2 A0_3 c0_3 l0_3 a1_0 a1_1 a1_2 A1_3 c1_3 l1_3 r w hr0_3 hc0_3 hr1_3 hc1_3 h
  cases k with
  | zero => exact absurd h (by simp [ontimeref12_Equal.f])
  | succ k =>
  simp only [ontimeref12_Equal.f] at h
  have hu24 := Tryd.underlying24
  have HR0_3 := Aside0.mk hr0_3
  have HC0_3 := Aside0.mk hc0_3
  clear hr0_3 hc0_3
  have HR1_3 := Aside0.mk hr1_3
  have HC1_3 := Aside0.mk hc1_3
  clear hr1_3 hc1_3
  have HB := Aside0.mk (Below.refl w.heap.size w)
  have H : (if a0_0 = a1_0 then (if a0_1 = a1_1 then (if a0_2.toList = a1_2.toList then (ontimeref12_Equal.j0 k ((l0_3.length : Int) != (l1_3.length : Int)) a0_0 a0_1 a0_2 l0_3 a1_0 a1_1 a1_2 l1_3) else (ontimeref12_Equal.j0 k true a0_0 a0_1 a0_2 l0_3 a1_0 a1_1 a1_2 l1_3)) else (ontimeref12_Equal.j0 k true a0_0 a0_1 a0_2 l0_3 a1_0 a1_1 a1_2 l1_3)) else (ontimeref12_Equal.j0 k true a0_0 a0_1 a0_2 l0_3 a1_0 a1_1 a1_2 l1_3)) = some r := h
  clear h
  have HC3 := Aside0.mk H
  clear H
  go_enter Tryd.func38, Tryd.ntmps38
  go_upto_region 1 with (first | ((with_reducible refine gate_dst (N := 2) rfl ?_); (try (refine gate_guard (by rfl) ?_; dsimp only)); refine box_event ?hg (N := 2) ?hd (cs := #[.int .u8 a0_0, .int .i64 a0_1, .string a0_2, .slice A0_3 l0_3.length c0_3]) (t := 24) ?hr ?_; (case hd => rfl); (case hg => rfl); (case hr => first | (go_simp; done) | (go_simp; rfl)); intro gb180 hg w4 hbox hb; have n0_ := Aside0.mk (below_step (by repeat (first | (with_reducible first | exact HB.out | apply below_alloc | apply pw_below_drewN | apply below_drew1) | exact HB.out)) hb); have n1_ := Aside0.mk (hbox); have n2_ := Aside0.mk ((by rw [hg]; exact (below_size (by repeat (first | (with_reducible first | exact HB.out | apply below_alloc | apply pw_below_drewN | apply below_drew1) | exact HB.out))) : w.heap.size ≤ gb180)); have n3_ := Aside0.mk ((by rw [hg]; exact (below_size (by repeat (first | (with_reducible first | exact HB.out | apply below_alloc | apply pw_below_drewN | apply below_drew1) | exact HB.out))) : w.heap.size ≤ gb180)); clear HB; have HB := n0_; have BK180 := n1_; have GW180 := n2_; have GE180 := n3_; clear n0_ n1_ n2_ n3_; clear hb hbox hg) | ((with_reducible refine gate_dst (N := 3) rfl ?_); (try (refine gate_guard (by rfl) ?_; dsimp only)); refine box_event ?hg (N := 3) ?hd (cs := #[.int .u8 a1_0, .int .i64 a1_1, .string a1_2, .slice A1_3 l1_3.length c1_3]) (t := 24) ?hr ?_; (case hd => rfl); (case hg => rfl); (case hr => first | (go_simp; done) | (go_simp; rfl)); intro gb181 hg w5 hbox hb; have n0_ := Aside0.mk (blk_below (g := gb180) (o := .cells #[.int .u8 a0_0, .int .i64 a0_1, .string a0_2, .slice A0_3 l0_3.length c0_3] 24 (0, 0)) (by (with_reducible repeat (first | refine blk_drewN ?_ _ | refine blk_drew ?_ | refine blk_alloc ?_ _)); exact BK180.out) hb); have n1_ := Aside0.mk (below_step (by repeat (first | (with_reducible first | exact HB.out | apply below_alloc | apply pw_below_drewN | apply below_drew1 | refine below_set ?_ GE180.out) | exact HB.out)) hb); have n2_ := Aside0.mk (hbox); have n3_ := Aside0.mk ((by rw [hg]; exact (below_size (by repeat (first | (with_reducible first | exact HB.out | apply below_alloc | apply pw_below_drewN | apply below_drew1 | refine below_set ?_ GE180.out) | exact HB.out))) : w.heap.size ≤ gb181)); have n4_ := Aside0.mk ((by rw [hg]; exact (below_size (by repeat (first | (with_reducible first | exact HB.out | apply below_alloc | apply pw_below_drewN | apply below_drew1 | refine below_set ?_ GE180.out) | exact HB.out))) : w.heap.size ≤ gb181)); have n5_ := Aside0.mk ((by rw [hg]; exact Nat.ne_of_lt (blk_lt (g := gb180) (o := .cells #[.int .u8 a0_0, .int .i64 a0_1, .string a0_2, .slice A0_3 l0_3.length c0_3] 24 (0, 0)) (by (with_reducible repeat (first | refine blk_drewN ?_ _ | refine blk_drew ?_ | refine blk_alloc ?_ _)); exact BK180.out)) : gb180 ≠ gb181)); have n6_ := Aside0.mk ((by rw [hg]; exact Nat.ne_of_gt (blk_lt (g := gb180) (o := .cells #[.int .u8 a0_0, .int .i64 a0_1, .string a0_2, .slice A0_3 l0_3.length c0_3] 24 (0, 0)) (by (with_reducible repeat (first | refine blk_drewN ?_ _ | refine blk_drew ?_ | refine blk_alloc ?_ _)); exact BK180.out)) : gb181 ≠ gb180)); clear BK180; clear HB; have BK180 := n0_; have HB := n1_; have BK181 := n2_; have GW181 := n3_; have GE181 := n4_; have NB180_181 := n5_; have NB181_180 := n6_; clear n0_ n1_ n2_ n3_ n4_ n5_ n6_; clear hb hbox hg))
  (try simp only [Act.put, List.setIfInBounds_toArray, List.set_cons_zero, List.set_cons_succ])
  go_cut [33] (fun v33 wc => ∃ (kq : Nat) (x33_2 : Bool), v33 = .bool x33_2 ∧ Aside0 (ontimeref12_Equal.j0 kq x33_2 a0_0 a0_1 a0_2 l0_3 a1_0 a1_1 a1_2 l1_3 = some r) ∧ Aside0 (kq ≤ k) ∧ Aside0 (wc.heap[gb180]? = some (.cells #[.int .u8 a0_0, .int .i64 a0_1, .string a0_2, (.slice A0_3 l0_3.length c0_3)] 24 (0, 0))) ∧ Aside0 (wc.heap[gb181]? = some (.cells #[.int .u8 a1_0, .int .i64 a1_1, .string a1_2, (.slice A1_3 l1_3.length c1_3)] 24 (0, 0))) ∧ Aside0 (Below w.heap.size w wc))
  case first =>
    have H := HC3.out
    clear HC3
    by_cases c6 : a0_0 = a1_0
    · rw [if_pos c6] at H
      have c6b0 : (a0_0 == a1_0) = true := beq_iff_eq.mpr c6
      have c6b1 : (a0_0 != a1_0) = false := bne_eq_false_iff_eq.mpr c6
      clear c6
      (first | rw [c6b0] | (simp only [i64_w, i32_w]; rw [c6b0]) | skip)
      by_cases c7 : a0_1 = a1_1
      · rw [if_pos c7] at H
        have c7b0 : (a0_1 == a1_1) = true := beq_iff_eq.mpr c7
        have c7b1 : (a0_1 != a1_1) = false := bne_eq_false_iff_eq.mpr c7
        clear c7
        by_cases c8 : a0_2.toList = a1_2.toList
        · rw [if_pos c8] at H
          have c8b0 : (a0_2.toList == a1_2.toList) = true := beq_iff_eq.mpr c8
          have c8b1 : (a0_2.toList != a1_2.toList) = false := bne_eq_false_iff_eq.mpr c8
          clear c8
          have H' := Aside0.mk H
          clear H
          have hnb9 := NB180_181.out
          have hnc9 := NB181_180.out
          have hcz10_0 : w5.cell? ⟨gb180, 0, none⟩ = some (.int .u8 a0_0) := (blk_cell BK180.out 0).trans rfl
          have hcz10_1 : w5.cell? ⟨gb180, 1, none⟩ = some (.int .i64 a0_1) := (blk_cell BK180.out 1).trans rfl
          have hcz10_2 : w5.cell? ⟨gb180, 2, none⟩ = some (.string a0_2) := (blk_cell BK180.out 2).trans rfl
          have hcz10_3 : w5.cell? ⟨gb180, 3, none⟩ = some (.slice A0_3 l0_3.length c0_3) := (blk_cell BK180.out 3).trans rfl
          have hfz10_0 := blk_frozen BK180.out 0
          have hfz10_1 := blk_frozen BK180.out 1
          have hfz10_2 := blk_frozen BK180.out 2
          have hfz10_3 := blk_frozen BK180.out 3
          have hcz11_0 : w5.cell? ⟨gb181, 0, none⟩ = some (.int .u8 a1_0) := (blk_cell BK181.out 0).trans rfl
          have hcz11_1 : w5.cell? ⟨gb181, 1, none⟩ = some (.int .i64 a1_1) := (blk_cell BK181.out 1).trans rfl
          have hcz11_2 : w5.cell? ⟨gb181, 2, none⟩ = some (.string a1_2) := (blk_cell BK181.out 2).trans rfl
          have hcz11_3 : w5.cell? ⟨gb181, 3, none⟩ = some (.slice A1_3 l1_3.length c1_3) := (blk_cell BK181.out 3).trans rfl
          have hfz11_0 := blk_frozen BK181.out 0
          have hfz11_1 := blk_frozen BK181.out 1
          have hfz11_2 := blk_frozen BK181.out 2
          have hfz11_3 := blk_frozen BK181.out 3
          go_wp2
          go_meet
          case rel => exact ⟨_, (((l0_3.length : Int) != (l1_3.length : Int))), (by first | rfl | (simp; done) | (simp [*]; done)), H', ⟨by first | omega | exact Nat.le_refl _⟩, ⟨by (with_reducible repeat (first | refine blk_drewN ?_ _ | refine blk_drew ?_ | refine blk_alloc ?_ _)); exact BK180.out⟩, ⟨by (with_reducible repeat (first | refine blk_drewN ?_ _ | refine blk_drew ?_ | refine blk_alloc ?_ _)); exact BK181.out⟩, ⟨by repeat (first | (with_reducible first | exact HB.out | apply below_alloc | apply pw_below_drewN | apply below_drew1 | refine below_set ?_ GE180.out | refine below_set ?_ GE181.out) | exact HB.out)⟩⟩
        · rw [if_neg c8] at H
          have c8b0 : (a0_2.toList == a1_2.toList) = false := beq_eq_false_iff_ne.mpr c8
          have c8b1 : (a0_2.toList != a1_2.toList) = true := bne_iff_ne.mpr c8
          have H' := Aside0.mk H
          clear H
          have hnb12 := NB180_181.out
          have hnc12 := NB181_180.out
          have hcz13_0 : w5.cell? ⟨gb180, 0, none⟩ = some (.int .u8 a0_0) := (blk_cell BK180.out 0).trans rfl
          have hcz13_1 : w5.cell? ⟨gb180, 1, none⟩ = some (.int .i64 a0_1) := (blk_cell BK180.out 1).trans rfl
          have hcz13_2 : w5.cell? ⟨gb180, 2, none⟩ = some (.string a0_2) := (blk_cell BK180.out 2).trans rfl
          have hcz13_3 : w5.cell? ⟨gb180, 3, none⟩ = some (.slice A0_3 l0_3.length c0_3) := (blk_cell BK180.out 3).trans rfl
          have hfz13_0 := blk_frozen BK180.out 0
          have hfz13_1 := blk_frozen BK180.out 1
          have hfz13_2 := blk_frozen BK180.out 2
          have hfz13_3 := blk_frozen BK180.out 3
          have hcz14_0 : w5.cell? ⟨gb181, 0, none⟩ = some (.int .u8 a1_0) := (blk_cell BK181.out 0).trans rfl
          have hcz14_1 : w5.cell? ⟨gb181, 1, none⟩ = some (.int .i64 a1_1) := (blk_cell BK181.out 1).trans rfl
          have hcz14_2 : w5.cell? ⟨gb181, 2, none⟩ = some (.string a1_2) := (blk_cell BK181.out 2).trans rfl
          have hcz14_3 : w5.cell? ⟨gb181, 3, none⟩ = some (.slice A1_3 l1_3.length c1_3) := (blk_cell BK181.out 3).trans rfl
          have hfz14_0 := blk_frozen BK181.out 0
          have hfz14_1 := blk_frozen BK181.out 1
          have hfz14_2 := blk_frozen BK181.out 2
          have hfz14_3 := blk_frozen BK181.out 3
          go_wp2
          go_meet
          case rel => exact ⟨_, (true), (by first | rfl | (simp; done) | (simp [*]; done)), H', ⟨by first | omega | exact Nat.le_refl _⟩, ⟨by (with_reducible repeat (first | refine blk_drewN ?_ _ | refine blk_drew ?_ | refine blk_alloc ?_ _)); exact BK180.out⟩, ⟨by (with_reducible repeat (first | refine blk_drewN ?_ _ | refine blk_drew ?_ | refine blk_alloc ?_ _)); exact BK181.out⟩, ⟨by repeat (first | (with_reducible first | exact HB.out | apply below_alloc | apply pw_below_drewN | apply below_drew1 | refine below_set ?_ GE180.out | refine below_set ?_ GE181.out) | exact HB.out)⟩⟩
      · rw [if_neg c7] at H
        have c7b0 : (a0_1 == a1_1) = false := beq_eq_false_iff_ne.mpr c7
        have c7b1 : (a0_1 != a1_1) = true := bne_iff_ne.mpr c7
        have H' := Aside0.mk H
        clear H
        have hnb15 := NB180_181.out
        have hnc15 := NB181_180.out
        have hcz16_0 : w5.cell? ⟨gb180, 0, none⟩ = some (.int .u8 a0_0) := (blk_cell BK180.out 0).trans rfl
        have hcz16_1 : w5.cell? ⟨gb180, 1, none⟩ = some (.int .i64 a0_1) := (blk_cell BK180.out 1).trans rfl
        have hcz16_2 : w5.cell? ⟨gb180, 2, none⟩ = some (.string a0_2) := (blk_cell BK180.out 2).trans rfl
        have hcz16_3 : w5.cell? ⟨gb180, 3, none⟩ = some (.slice A0_3 l0_3.length c0_3) := (blk_cell BK180.out 3).trans rfl
        have hfz16_0 := blk_frozen BK180.out 0
        have hfz16_1 := blk_frozen BK180.out 1
        have hfz16_2 := blk_frozen BK180.out 2
        have hfz16_3 := blk_frozen BK180.out 3
        have hcz17_0 : w5.cell? ⟨gb181, 0, none⟩ = some (.int .u8 a1_0) := (blk_cell BK181.out 0).trans rfl
        have hcz17_1 : w5.cell? ⟨gb181, 1, none⟩ = some (.int .i64 a1_1) := (blk_cell BK181.out 1).trans rfl
        have hcz17_2 : w5.cell? ⟨gb181, 2, none⟩ = some (.string a1_2) := (blk_cell BK181.out 2).trans rfl
        have hcz17_3 : w5.cell? ⟨gb181, 3, none⟩ = some (.slice A1_3 l1_3.length c1_3) := (blk_cell BK181.out 3).trans rfl
        have hfz17_0 := blk_frozen BK181.out 0
        have hfz17_1 := blk_frozen BK181.out 1
        have hfz17_2 := blk_frozen BK181.out 2
        have hfz17_3 := blk_frozen BK181.out 3
        go_wp2
        go_meet
        case rel => exact ⟨_, (true), (by first | rfl | (simp; done) | (simp [*]; done)), H', ⟨by first | omega | exact Nat.le_refl _⟩, ⟨by (with_reducible repeat (first | refine blk_drewN ?_ _ | refine blk_drew ?_ | refine blk_alloc ?_ _)); exact BK180.out⟩, ⟨by (with_reducible repeat (first | refine blk_drewN ?_ _ | refine blk_drew ?_ | refine blk_alloc ?_ _)); exact BK181.out⟩, ⟨by repeat (first | (with_reducible first | exact HB.out | apply below_alloc | apply pw_below_drewN | apply below_drew1 | refine below_set ?_ GE180.out | refine below_set ?_ GE181.out) | exact HB.out)⟩⟩
    · rw [if_neg c6] at H
      have c6b0 : (a0_0 == a1_0) = false := beq_eq_false_iff_ne.mpr c6
      have c6b1 : (a0_0 != a1_0) = true := bne_iff_ne.mpr c6
      (first | rw [c6b0] | (simp only [i64_w, i32_w]; rw [c6b0]) | skip)
      have H' := Aside0.mk H
      clear H
      have hnb18 := NB180_181.out
      have hnc18 := NB181_180.out
      have hcz19_0 : w5.cell? ⟨gb180, 0, none⟩ = some (.int .u8 a0_0) := (blk_cell BK180.out 0).trans rfl
      have hcz19_1 : w5.cell? ⟨gb180, 1, none⟩ = some (.int .i64 a0_1) := (blk_cell BK180.out 1).trans rfl
      have hcz19_2 : w5.cell? ⟨gb180, 2, none⟩ = some (.string a0_2) := (blk_cell BK180.out 2).trans rfl
      have hcz19_3 : w5.cell? ⟨gb180, 3, none⟩ = some (.slice A0_3 l0_3.length c0_3) := (blk_cell BK180.out 3).trans rfl
      have hfz19_0 := blk_frozen BK180.out 0
      have hfz19_1 := blk_frozen BK180.out 1
      have hfz19_2 := blk_frozen BK180.out 2
      have hfz19_3 := blk_frozen BK180.out 3
      have hcz20_0 : w5.cell? ⟨gb181, 0, none⟩ = some (.int .u8 a1_0) := (blk_cell BK181.out 0).trans rfl
      have hcz20_1 : w5.cell? ⟨gb181, 1, none⟩ = some (.int .i64 a1_1) := (blk_cell BK181.out 1).trans rfl
      have hcz20_2 : w5.cell? ⟨gb181, 2, none⟩ = some (.string a1_2) := (blk_cell BK181.out 2).trans rfl
      have hcz20_3 : w5.cell? ⟨gb181, 3, none⟩ = some (.slice A1_3 l1_3.length c1_3) := (blk_cell BK181.out 3).trans rfl
      have hfz20_0 := blk_frozen BK181.out 0
      have hfz20_1 := blk_frozen BK181.out 1
      have hfz20_2 := blk_frozen BK181.out 2
      have hfz20_3 := blk_frozen BK181.out 3
      go_wp2
      go_meet
      case rel => exact ⟨_, (true), (by first | rfl | (simp; done) | (simp [*]; done)), H', ⟨by first | omega | exact Nat.le_refl _⟩, ⟨by (with_reducible repeat (first | refine blk_drewN ?_ _ | refine blk_drew ?_ | refine blk_alloc ?_ _)); exact BK180.out⟩, ⟨by (with_reducible repeat (first | refine blk_drewN ?_ _ | refine blk_drew ?_ | refine blk_alloc ?_ _)); exact BK181.out⟩, ⟨by repeat (first | (with_reducible first | exact HB.out | apply below_alloc | apply pw_below_drewN | apply below_drew1 | refine below_set ?_ GE180.out | refine below_set ?_ GE181.out) | exact HB.out)⟩⟩
  case rest =>
    clear HC3
    try clear c1
    try clear p2
    try clear c3
    try clear c6
    try clear c6b0
    try clear c6b1
    try clear c7
    try clear c7b0
    try clear c7b1
    try clear c8
    try clear c8b0
    try clear c8b1
    try clear c9
    try clear c12
    try clear c15
    try clear c18
    try clear hcz10_0
    try clear hcz10_1
    try clear hcz10_2
    try clear hcz10_3
    try clear hcz11_0
    try clear hcz11_1
    try clear hcz11_2
    try clear hcz11_3
    try clear hcz13_0
    try clear hcz13_1
    try clear hcz13_2
    try clear hcz13_3
    try clear hcz14_0
    try clear hcz14_1
    try clear hcz14_2
    try clear hcz14_3
    try clear hcz16_0
    try clear hcz16_1
    try clear hcz16_2
    try clear hcz16_3
    try clear hcz17_0
    try clear hcz17_1
    try clear hcz17_2
    try clear hcz17_3
    try clear hcz19_0
    try clear hcz19_1
    try clear hcz19_2
    try clear hcz19_3
    try clear hcz20_0
    try clear hcz20_1
    try clear hcz20_2
    try clear hcz20_3
    try clear hfz10_0
    try clear hfz10_1
    try clear hfz10_2
    try clear hfz10_3
    try clear hfz11_0
    try clear hfz11_1
    try clear hfz11_2
    try clear hfz11_3
    try clear hfz13_0
    try clear hfz13_1
    try clear hfz13_2
    try clear hfz13_3
    try clear hfz14_0
    try clear hfz14_1
    try clear hfz14_2
    try clear hfz14_3
    try clear hfz16_0
    try clear hfz16_1
    try clear hfz16_2
    try clear hfz16_3
    try clear hfz17_0
    try clear hfz17_1
    try clear hfz17_2
    try clear hfz17_3
    try clear hfz19_0
    try clear hfz19_1
    try clear hfz19_2
    try clear hfz19_3
    try clear hfz20_0
    try clear hfz20_1
    try clear hfz20_2
    try clear hfz20_3
    obtain ⟨kq, x33_2, rfl, HA, HJ2, BK180, BK181, HB⟩ := hcut
    cases kq with
    | zero => exact absurd HA.out (by simp [ontimeref12_Equal.j0])
    | succ kj2 =>
      have H := HA.out
      clear HA
      simp only [ontimeref12_Equal.j0] at H
      by_cases c21 : x33_2 = true
      · subst c21
        have H1 : (some false) = some r := by rw [if_pos rfl] at H; exact H
        clear H
        have H := H1
        clear H1
        obtain rfl := Option.some.inj H
        go_wp2
        go_ret
        exact ⟨by first | rfl | (simp [errW_none, errW_some] <;> rfl) | (simp [*, errW_none, errW_some] <;> rfl), by repeat (first | (with_reducible first | exact HB.out | apply below_alloc | apply pw_below_drewN | apply below_drew1 | refine below_set ?_ GE180.out | refine below_set ?_ GE181.out) | exact HB.out)⟩
      · replace c21 := Bool.eq_false_iff.mpr c21
        subst c21
        have H1 : (ontimeref12_Equal.l0 kj2 0 a0_0 a0_1 a0_2 l0_3 a1_0 a1_1 a1_2 l1_3) = some r := by rw [if_neg (show ¬ (false = true) by decide)] at H; exact H
        clear H
        have H := H1
        clear H1
        have H' := Aside0.mk H
        clear H
        go_wp2
        go_loopg [5] kj2 (fun kq v5 w' => ∃ (x5_2 : Int), v5 = .int .i64 x5_2 ∧ Aside0 (ontimeref12_Equal.l0 kq x5_2 a0_0 a0_1 a0_2 l0_3 a1_0 a1_1 a1_2 l1_3 = some r) ∧ Aside0 (kq ≤ kj2) ∧ Aside0 (w'.heap[gb180]? = some (.cells #[.int .u8 a0_0, .int .i64 a0_1, .string a0_2, (.slice A0_3 l0_3.length c0_3)] 24 (0, 0))) ∧ Aside0 (w'.heap[gb181]? = some (.cells #[.int .u8 a1_0, .int .i64 a1_1, .string a1_2, (.slice A1_3 l1_3.length c1_3)] 24 (0, 0))) ∧ Aside0 (Below w.heap.size w w'))
        case atStart => exact ⟨(0), (by first | rfl | (simp; done) | (simp [*]; done)), H', ⟨Nat.le_refl _⟩, ⟨by (with_reducible repeat (first | refine blk_drewN ?_ _ | refine blk_drew ?_ | refine blk_alloc ?_ _)); exact BK180.out⟩, ⟨by (with_reducible repeat (first | refine blk_drewN ?_ _ | refine blk_drew ?_ | refine blk_alloc ?_ _)); exact BK181.out⟩, ⟨by repeat (first | (with_reducible first | exact HB.out | apply below_alloc | apply pw_below_drewN | apply below_drew1 | refine below_set ?_ GE180.out | refine below_set ?_ GE181.out) | exact HB.out)⟩⟩
        case round =>
          clear H'
          try clear c1
          try clear c2
          try clear p2
          try clear c3
          try clear c6
          try clear c6b0
          try clear c6b1
          try clear c7
          try clear c7b0
          try clear c7b1
          try clear c8
          try clear c8b0
          try clear c8b1
          try clear c9
          try clear c12
          try clear c15
          try clear c18
          try clear c21
          try clear hcz10_0
          try clear hcz10_1
          try clear hcz10_2
          try clear hcz10_3
          try clear hcz11_0
          try clear hcz11_1
          try clear hcz11_2
          try clear hcz11_3
          try clear hcz13_0
          try clear hcz13_1
          try clear hcz13_2
          try clear hcz13_3
          try clear hcz14_0
          try clear hcz14_1
          try clear hcz14_2
          try clear hcz14_3
          try clear hcz16_0
          try clear hcz16_1
          try clear hcz16_2
          try clear hcz16_3
          try clear hcz17_0
          try clear hcz17_1
          try clear hcz17_2
          try clear hcz17_3
          try clear hcz19_0
          try clear hcz19_1
          try clear hcz19_2
          try clear hcz19_3
          try clear hcz20_0
          try clear hcz20_1
          try clear hcz20_2
          try clear hcz20_3
          try clear hfz10_0
          try clear hfz10_1
          try clear hfz10_2
          try clear hfz10_3
          try clear hfz11_0
          try clear hfz11_1
          try clear hfz11_2
          try clear hfz11_3
          try clear hfz13_0
          try clear hfz13_1
          try clear hfz13_2
          try clear hfz13_3
          try clear hfz14_0
          try clear hfz14_1
          try clear hfz14_2
          try clear hfz14_3
          try clear hfz16_0
          try clear hfz16_1
          try clear hfz16_2
          try clear hfz16_3
          try clear hfz17_0
          try clear hfz17_1
          try clear hfz17_2
          try clear hfz17_3
          try clear hfz19_0
          try clear hfz19_1
          try clear hfz19_2
          try clear hfz19_3
          try clear hfz20_0
          try clear hfz20_1
          try clear hfz20_2
          try clear hfz20_3
          try clear p2
          obtain ⟨x5_2, rfl, HA, HK2, BK180, BK181, HB⟩ := hrel
          cases gk with
          | zero => exact absurd HA.out (by simp [ontimeref12_Equal.l0])
          | succ k2 =>
            have H := HA.out
            clear HA
            simp only [ontimeref12_Equal.l0] at H
            by_cases c22 : x5_2 < (l0_3.length : Int)
            · rw [if_pos c22] at H
              have c22b0 : decide (x5_2 < (l0_3.length : Int)) = true := decide_eq_true c22
              clear c22
              by_cases c23 : 0 ≤ x5_2
              · rw [if_pos c23] at H
                have c23b0 : decide (0 ≤ x5_2) = true := decide_eq_true c23
                clear c23
                by_cases c24 : x5_2 < (l1_3.length : Int)
                · rw [if_pos c24] at H
                  have c24b0 : decide (x5_2 < (l1_3.length : Int)) = true := decide_eq_true c24
                  clear c24
                  replace H := Option.bind_eq_some_iff.mp H
                  obtain ⟨t184, A250, H⟩ := H
                  replace H : (if t184 = true then (ontimeref12_Equal.l0 k2 (wrap64 (x5_2 + 1)) a0_0 a0_1 a0_2 l0_3 a1_0 a1_1 a1_2 l1_3) else (some false)) = some r := H
                  have A25 := Aside0.mk A250
                  clear A250
                  by_cases c26 : t184 = true
                  · subst c26
                    have H1 : (ontimeref12_Equal.l0 k2 (wrap64 (x5_2 + 1)) a0_0 a0_1 a0_2 l0_3 a1_0 a1_1 a1_2 l1_3) = some r := by rw [if_pos rfl] at H; exact H
                    clear H
                    have H := H1
                    clear H1
                    have H' := Aside0.mk H
                    clear H
                    have hnb27 := NB180_181.out
                    have hnc27 := NB181_180.out
                    have hcz28_0 : wr.cell? ⟨gb180, 0, none⟩ = some (.int .u8 a0_0) := (blk_cell BK180.out 0).trans rfl
                    have hcz28_1 : wr.cell? ⟨gb180, 1, none⟩ = some (.int .i64 a0_1) := (blk_cell BK180.out 1).trans rfl
                    have hcz28_2 : wr.cell? ⟨gb180, 2, none⟩ = some (.string a0_2) := (blk_cell BK180.out 2).trans rfl
                    have hcz28_3 : wr.cell? ⟨gb180, 3, none⟩ = some (.slice A0_3 l0_3.length c0_3) := (blk_cell BK180.out 3).trans rfl
                    have hfz28_0 := blk_frozen BK180.out 0
                    have hfz28_1 := blk_frozen BK180.out 1
                    have hfz28_2 := blk_frozen BK180.out 2
                    have hfz28_3 := blk_frozen BK180.out 3
                    try go_wp2
                    have n0_ := Aside0.mk (blk_drew BK180.out)
                    have n1_ := Aside0.mk (blk_drew BK181.out)
                    have n2_ := Aside0.mk (below_drew1 HB.out)
                    clear BK180
                    clear BK181
                    clear HB
                    have BK180 := n0_
                    have BK181 := n1_
                    have HB := n2_
                    clear n0_ n1_ n2_
                    have p182 : 0 ≤ (x5_2 : Int) := of_decide_eq_true (by first | (with_reducible assumption) | assumption)
                    have q182 : x5_2 < (l0_3.length : Int) := of_decide_eq_true (by first | (with_reducible assumption) | assumption)
                    obtain ⟨ad182, A182_3, c182_3, e182, hx182_0, hx182_1, hx182_2, hx182_3, hl182_3, hi182_3⟩ := at_T24 HR0_3.out x5_2 p182 q182
                    have hw182_3 := hx182_3
                    have hw182_2 := hx182_2
                    have hw182_1 := hx182_1
                    have hw182_0 := hx182_0
                    cases e182
                    replace hx182_0 := (HB.out.cell (World.block_lt_of_cell? w _ hx182_0)).trans hx182_0
                    replace hx182_1 := (HB.out.cell (World.block_lt_of_cell? w _ hx182_1)).trans hx182_1
                    replace hx182_2 := (HB.out.cell (World.block_lt_of_cell? w _ hx182_2)).trans hx182_2
                    replace hx182_3 := (HB.out.cell (World.block_lt_of_cell? w _ hx182_3)).trans hx182_3
                    have HR182_3 := Aside0.mk hi182_3
                    have HC182_3 := Aside0.mk hl182_3
                    clear hi182_3 hl182_3
                    replace p182 := eq_true p182
                    replace q182 := eq_true q182
                    have p183 : 0 ≤ (x5_2 : Int) := of_decide_eq_true (by first | (with_reducible assumption) | assumption)
                    have q183 : x5_2 < (l1_3.length : Int) := of_decide_eq_true (by first | (with_reducible assumption) | assumption)
                    obtain ⟨ad183, A183_3, c183_3, e183, hx183_0, hx183_1, hx183_2, hx183_3, hl183_3, hi183_3⟩ := at_T24 HR1_3.out x5_2 p183 q183
                    have hw183_3 := hx183_3
                    have hw183_2 := hx183_2
                    have hw183_1 := hx183_1
                    have hw183_0 := hx183_0
                    cases e183
                    replace hx183_0 := (HB.out.cell (World.block_lt_of_cell? w _ hx183_0)).trans hx183_0
                    replace hx183_1 := (HB.out.cell (World.block_lt_of_cell? w _ hx183_1)).trans hx183_1
                    replace hx183_2 := (HB.out.cell (World.block_lt_of_cell? w _ hx183_2)).trans hx183_2
                    replace hx183_3 := (HB.out.cell (World.block_lt_of_cell? w _ hx183_3)).trans hx183_3
                    have HR183_3 := Aside0.mk hi183_3
                    have HC183_3 := Aside0.mk hl183_3
                    clear hi183_3 hl183_3
                    replace p183 := eq_true p183
                    replace q183 := eq_true q183
                    refine start_ (n := 12) (S := fun w' => w'.cell? ⟨gb180, 0, none⟩ = some (.int .u8 a0_0) ∧ w'.cell? ⟨gb180, 1, none⟩ = some (.int .i64 a0_1) ∧ w'.cell? ⟨gb180, 2, none⟩ = some (.string a0_2) ∧ w'.cell? ⟨gb180, 3, none⟩ = some (.slice (some ad182) l0_3.length c0_3) ∧ w'.cell? ⟨gb181, 0, none⟩ = some (.int .u8 a1_0) ∧ w'.cell? ⟨gb181, 1, none⟩ = some (.int .i64 a1_1) ∧ w'.cell? ⟨gb181, 2, none⟩ = some (.string a1_2) ∧ w'.cell? ⟨gb181, 3, none⟩ = some (.slice (some ad183) l1_3.length c1_3) ∧ w'.cell? (ad182.add ((x5_2).toNat * 4)) = some (.int .u8 ((rd_T24 l0_3 x5_2).f0)) ∧ w'.cell? ⟨(ad182.add ((x5_2).toNat * 4)).block, (ad182.add ((x5_2).toNat * 4)).off + 1, none⟩ = some (.int .i64 ((rd_T24 l0_3 x5_2).f1)) ∧ w'.cell? ⟨(ad182.add ((x5_2).toNat * 4)).block, (ad182.add ((x5_2).toNat * 4)).off + 2, none⟩ = some (.string ((rd_T24 l0_3 x5_2).f2)) ∧ w'.cell? ⟨(ad182.add ((x5_2).toNat * 4)).block, (ad182.add ((x5_2).toNat * 4)).off + 3, none⟩ = some (.slice A182_3 ((rd_T24 l0_3 x5_2).f3).length c182_3) ∧ w'.cell? (ad183.add ((x5_2).toNat * 4)) = some (.int .u8 ((rd_T24 l1_3 x5_2).f0)) ∧ w'.cell? ⟨(ad183.add ((x5_2).toNat * 4)).block, (ad183.add ((x5_2).toNat * 4)).off + 1, none⟩ = some (.int .i64 ((rd_T24 l1_3 x5_2).f1)) ∧ w'.cell? ⟨(ad183.add ((x5_2).toNat * 4)).block, (ad183.add ((x5_2).toNat * 4)).off + 2, none⟩ = some (.string ((rd_T24 l1_3 x5_2).f2)) ∧ w'.cell? ⟨(ad183.add ((x5_2).toNat * 4)).block, (ad183.add ((x5_2).toNat * 4)).off + 3, none⟩ = some (.slice A183_3 ((rd_T24 l1_3 x5_2).f3).length c183_3)) (ds := []) #[false, false, false, false, false, false, false, false, false, false, false, false] (by kernel_rfl) rfl rfl ⟨(blk_cell BK180.out 0).trans rfl, (blk_cell BK180.out 1).trans rfl, (blk_cell BK180.out 2).trans rfl, (blk_cell BK180.out 3).trans rfl, (blk_cell BK181.out 0).trans rfl, (blk_cell BK181.out 1).trans rfl, (blk_cell BK181.out 2).trans rfl, (blk_cell BK181.out 3).trans rfl, ((HB.out.cell (World.block_lt_of_cell? w _ hw182_0)).trans hw182_0), ((HB.out.cell (World.block_lt_of_cell? w _ hw182_1)).trans hw182_1), ((HB.out.cell (World.block_lt_of_cell? w _ hw182_2)).trans hw182_2), ((HB.out.cell (World.block_lt_of_cell? w _ hw182_3)).trans hw182_3), ((HB.out.cell (World.block_lt_of_cell? w _ hw183_0)).trans hw183_0), ((HB.out.cell (World.block_lt_of_cell? w _ hw183_1)).trans hw183_1), ((HB.out.cell (World.block_lt_of_cell? w _ hw183_2)).trans hw183_2), ((HB.out.cell (World.block_lt_of_cell? w _ hw183_3)).trans hw183_3)⟩ (fun hHeld => ?_); refine with_tabW ontimeref12_Equal.tab6 ontimeref12_Equal.bits6 (fun HT_ HW_ => ?_)
                    generalize wr.drew = w29 at BK180 BK181 HB HR182_3 HR183_3 hx182_0 hx182_1 hx182_2 hx182_3 hx183_0 hx183_1 hx183_2 hx183_3 hHeld ⊢
                    refine pure_ (i := 0) (N := some 41) (v := ?_) (a' := ?_) #[true, false, false, false, false, false, false, false, false, false, false, false] rfl rfl (any_of HT_.out (by kernel_rfl)) (fun _ _ _ h => h) (Or.inl ⟨by rfl, ?_⟩) ?_ ?_
                    rotate_left
                    · intro w'
                      go_simp
                      with_reducible rfl
                    rotate_left
                    · simp only [Act.put, List.setIfInBounds_toArray, List.set_cons_zero, List.set_cons_succ, i64_w, i32_w]
                      rfl
                    refine pure_ (i := 2) (N := some 43) (v := ?_) (a' := ?_) #[true, false, true, false, false, false, false, false, false, false, false, false] rfl rfl (any_of HT_.out (by kernel_rfl)) (fun _ _ _ h => h) (Or.inl ⟨by rfl, ?_⟩) ?_ ?_
                    rotate_left
                    · intro w'
                      go_simp
                      with_reducible rfl
                    rotate_left
                    · simp only [Act.put, List.setIfInBounds_toArray, List.set_cons_zero, List.set_cons_succ, i64_w, i32_w]
                      rfl
                    refine pure_ (i := 5) (N := some 46) (v := ?_) (a' := ?_) #[true, false, true, false, false, true, false, false, false, false, false, false] rfl rfl (any_of HT_.out (by kernel_rfl)) (fun _ _ _ h => h) (Or.inl ⟨by rfl, ?_⟩) ?_ ?_
                    rotate_left
                    · intro w'
                      go_simp
                      with_reducible rfl
                    rotate_left
                    · simp only [Act.put, List.setIfInBounds_toArray, List.set_cons_zero, List.set_cons_succ, i64_w, i32_w]
                      rfl
                    refine pure_ (i := 7) (N := some 48) (v := ?_) (a' := ?_) #[true, false, true, false, false, true, false, true, false, false, false, false] rfl rfl (any_of HT_.out (by kernel_rfl)) (fun _ _ _ h => h) (Or.inl ⟨by rfl, ?_⟩) ?_ ?_
                    rotate_left
                    · intro w'
                      go_simp
                      with_reducible rfl
                    rotate_left
                    · simp only [Act.put, List.setIfInBounds_toArray, List.set_cons_zero, List.set_cons_succ, i64_w, i32_w]
                      rfl
                    refine take_ (i := 1) (N := some 42) (v := ?_) (a' := ?_) #[true, true, true, false, false, true, false, true, false, false, false, false] rfl rfl (take_ofW HT_.out HW_.out (by kernel_rfl)) (fun _ _ _ h => h) (Or.inl ⟨by rfl, ?_⟩) hHeld ?_ ?_
                    rotate_left
                    · rintro w' ⟨s0, s1, s2, s3, s4, s5, s6, s7, s8, s9, s10, s11, s12, s13, s14, s15⟩
                      go_simp
                      with_reducible rfl
                    rotate_left
                    · simp only [Act.put, List.setIfInBounds_toArray, List.set_cons_zero, List.set_cons_succ, i64_w, i32_w]
                      rfl
                    refine pure_ (i := 3) (N := some 44) (v := ?_) (a' := ?_) #[true, true, true, true, false, true, false, true, false, false, false, false] rfl rfl (any_of HT_.out (by kernel_rfl)) (fun _ _ _ h => h) (Or.inl ⟨by rfl, ?_⟩) ?_ ?_
                    rotate_left
                    · intro w'
                      go_simp
                      with_reducible rfl
                    rotate_left
                    · simp only [Act.put, List.setIfInBounds_toArray, List.set_cons_zero, List.set_cons_succ, i64_w, i32_w]
                      rfl
                    refine take_ (i := 4) (N := some 45) (v := ?_) (a' := ?_) #[true, true, true, true, true, true, false, true, false, false, false, false] rfl rfl (take_ofW HT_.out HW_.out (by kernel_rfl)) (fun _ _ _ h => h) (Or.inl ⟨by rfl, ?_⟩) hHeld ?_ ?_
                    rotate_left
                    · rintro w' ⟨s0, s1, s2, s3, s4, s5, s6, s7, s8, s9, s10, s11, s12, s13, s14, s15⟩
                      go_simp
                      with_reducible rfl
                    rotate_left
                    · simp only [Act.put, List.setIfInBounds_toArray, List.set_cons_zero, List.set_cons_succ, i64_w, i32_w]
                      rfl
                    refine take_ (i := 6) (N := some 47) (v := ?_) (a' := ?_) #[true, true, true, true, true, true, true, true, false, false, false, false] rfl rfl (take_ofW HT_.out HW_.out (by kernel_rfl)) (fun _ _ _ h => h) (Or.inl ⟨by rfl, ?_⟩) hHeld ?_ ?_
                    rotate_left
                    · rintro w' ⟨s0, s1, s2, s3, s4, s5, s6, s7, s8, s9, s10, s11, s12, s13, s14, s15⟩
                      go_simp
                      with_reducible rfl
                    rotate_left
                    · simp only [Act.put, List.setIfInBounds_toArray, List.set_cons_zero, List.set_cons_succ, i64_w, i32_w]
                      rfl
                    refine pure_ (i := 8) (N := some 49) (v := ?_) (a' := ?_) #[true, true, true, true, true, true, true, true, true, false, false, false] rfl rfl (any_of HT_.out (by kernel_rfl)) (fun _ _ _ h => h) (Or.inl ⟨by rfl, ?_⟩) ?_ ?_
                    rotate_left
                    · intro w'
                      go_simp
                      with_reducible rfl
                    rotate_left
                    · simp only [Act.put, List.setIfInBounds_toArray, List.set_cons_zero, List.set_cons_succ, i64_w, i32_w]
                      rfl
                    refine take_ (i := 9) (N := some 50) (v := ?_) (a' := ?_) #[true, true, true, true, true, true, true, true, true, true, false, false] rfl rfl (take_ofW HT_.out HW_.out (by kernel_rfl)) (fun _ _ _ h => h) (Or.inl ⟨by rfl, ?_⟩) hHeld ?_ ?_
                    rotate_left
                    · rintro w' ⟨s0, s1, s2, s3, s4, s5, s6, s7, s8, s9, s10, s11, s12, s13, s14, s15⟩
                      go_simp
                      with_reducible rfl
                    rotate_left
                    · simp only [Act.put, List.setIfInBounds_toArray, List.set_cons_zero, List.set_cons_succ, i64_w, i32_w]
                      rfl
                    refine one_ (i := 10) (N := some 51) #[true, true, true, true, true, true, true, true, true, true, true, false] rfl rfl (one_of HT_.out (by kernel_rfl)) (by decide) (fun K hK => ?_)
                    refine goes_ Tryd.func38 (by kernel_rfl) rfl #[.agg #[.int .u8 ((rd_T24 l0_3 x5_2).f0), .int .i64 ((rd_T24 l0_3 x5_2).f1), .string ((rd_T24 l0_3 x5_2).f2), .slice A182_3 ((rd_T24 l0_3 x5_2).f3).length c182_3], .agg #[.int .u8 ((rd_T24 l1_3 x5_2).f0), .int .i64 ((rd_T24 l1_3 x5_2).f1), .string ((rd_T24 l1_3 x5_2).f2), .slice A183_3 ((rd_T24 l1_3 x5_2).f3).length c183_3]] (by rfl) rfl rfl (by (try simp only [List.map_toArray, List.map_cons, List.map_nil]); first | done | rfl | (simp only [List.length_drop, List.length_take]; rfl)) ?_
                    with_reducible refine (ih k2 (by have := HJ2.out; have := HK2.out; omega) ((rd_T24 l0_3 x5_2).f0) ((rd_T24 l0_3 x5_2).f1) ((rd_T24 l0_3 x5_2).f2) _ _ ((rd_T24 l0_3 x5_2).f3) ((rd_T24 l1_3 x5_2).f0) ((rd_T24 l1_3 x5_2).f1) ((rd_T24 l1_3 x5_2).f2) _ _ ((rd_T24 l1_3 x5_2).f3) true _ ?side1 ?side2 ?side3 ?side4 A25.out).mono ?_
                    (case side1 => repeat (first | exact (Kd.C_below HR182_3.out HB.out) | (with_reducible refine Kd.C_alloc ?_ _) | (with_reducible refine Kd.C_drewN ?_ _) | (with_reducible refine Kd.C_drew ?_)))
                    (case side2 => exact HC182_3.out)
                    (case side3 => repeat (first | exact (Kd.C_below HR183_3.out HB.out) | (with_reducible refine Kd.C_alloc ?_ _) | (with_reducible refine Kd.C_drewN ?_ _) | (with_reducible refine Kd.C_drew ?_)))
                    (case side4 => exact HC183_3.out)
                    rintro e w30 ⟨rfl, hb⟩
                    refine ⟨_, rfl, ?_⟩
                    have n0_ := Aside0.mk (blk_below (g := gb180) (o := .cells #[.int .u8 a0_0, .int .i64 a0_1, .string a0_2, .slice (some ad182) l0_3.length c0_3] 24 (0, 0)) (by (with_reducible repeat (first | refine blk_drewN ?_ _ | refine blk_drew ?_ | refine blk_alloc ?_ _)); exact BK180.out) hb)
                    have n1_ := Aside0.mk (blk_below (g := gb181) (o := .cells #[.int .u8 a1_0, .int .i64 a1_1, .string a1_2, .slice (some ad183) l1_3.length c1_3] 24 (0, 0)) (by (with_reducible repeat (first | refine blk_drewN ?_ _ | refine blk_drew ?_ | refine blk_alloc ?_ _)); exact BK181.out) hb)
                    have n2_ := Aside0.mk (below_step (by repeat (first | (with_reducible first | exact HB.out | apply below_alloc | apply pw_below_drewN | apply below_drew1 | refine below_set ?_ GE180.out | refine below_set ?_ GE181.out) | exact HB.out)) hb)
                    clear BK180
                    clear BK181
                    clear HB
                    have BK180 := n0_
                    have BK181 := n1_
                    have HB := n2_
                    clear n0_ n1_ n2_
                    (try clear hb)
                    (try clear hb2)
                    (try clear hk)
                    (try clear hi)
                    refine hK.out _ _ ⟨(blk_cell BK180.out 0).trans rfl, (blk_cell BK180.out 1).trans rfl, (blk_cell BK180.out 2).trans rfl, (blk_cell BK180.out 3).trans rfl, (blk_cell BK181.out 0).trans rfl, (blk_cell BK181.out 1).trans rfl, (blk_cell BK181.out 2).trans rfl, (blk_cell BK181.out 3).trans rfl, ((HB.out.cell (World.block_lt_of_cell? w _ hw182_0)).trans hw182_0), ((HB.out.cell (World.block_lt_of_cell? w _ hw182_1)).trans hw182_1), ((HB.out.cell (World.block_lt_of_cell? w _ hw182_2)).trans hw182_2), ((HB.out.cell (World.block_lt_of_cell? w _ hw182_3)).trans hw182_3), ((HB.out.cell (World.block_lt_of_cell? w _ hw183_0)).trans hw183_0), ((HB.out.cell (World.block_lt_of_cell? w _ hw183_1)).trans hw183_1), ((HB.out.cell (World.block_lt_of_cell? w _ hw183_2)).trans hw183_2), ((HB.out.cell (World.block_lt_of_cell? w _ hw183_3)).trans hw183_3)⟩ (fun hHeld => ?_)
                    clear hK K
                    refine norm_ (a' := ?_) ?_ ?_
                    rotate_left
                    · show Act.put _ (some 51) _ = _
                      simp only [Act.put, List.setIfInBounds_toArray, List.set_cons_zero, List.set_cons_succ, i64_w, i32_w]
                      rfl
                    refine pure_ (i := 11) (N := some 52) (v := ?_) (a' := ?_) #[true, true, true, true, true, true, true, true, true, true, true, true] rfl rfl (any_of HT_.out (by kernel_rfl)) (fun _ _ _ h => h) (Or.inl ⟨by rfl, ?_⟩) ?_ ?_
                    rotate_left
                    · intro w'
                      go_simp
                      with_reducible rfl
                    rotate_left
                    · simp only [Act.put, List.setIfInBounds_toArray, List.set_cons_zero, List.set_cons_succ, i64_w, i32_w]
                      rfl
                    refine done_ (done_of HT_.out (by kernel_rfl)) ?_
                    try go_wp2
                    go_roundg k2
                    case measure => have := HJ2.out; have := HK2.out; omega
                    case rel => exact ⟨(wrap64 (x5_2 + 1)), (by first | rfl | (simp; done) | (simp [*]; done)), H', ⟨by have := HJ2.out; have := HK2.out; omega⟩, ⟨by (with_reducible repeat (first | refine blk_drewN ?_ _ | refine blk_drew ?_ | refine blk_alloc ?_ _)); exact BK180.out⟩, ⟨by (with_reducible repeat (first | refine blk_drewN ?_ _ | refine blk_drew ?_ | refine blk_alloc ?_ _)); exact BK181.out⟩, ⟨by repeat (first | (with_reducible first | exact HB.out | apply below_alloc | apply pw_below_drewN | apply below_drew1 | refine below_set ?_ GE180.out | refine below_set ?_ GE181.out) | exact HB.out)⟩⟩
                  · replace c26 := Bool.eq_false_iff.mpr c26
                    subst c26
                    have H1 : (some false) = some r := by rw [if_neg (show ¬ (false = true) by decide)] at H; exact H
                    clear H
                    have H := H1
                    clear H1
                    obtain rfl := Option.some.inj H
                    have hnb31 := NB180_181.out
                    have hnc31 := NB181_180.out
                    have hcz32_0 : wr.cell? ⟨gb180, 0, none⟩ = some (.int .u8 a0_0) := (blk_cell BK180.out 0).trans rfl
                    have hcz32_1 : wr.cell? ⟨gb180, 1, none⟩ = some (.int .i64 a0_1) := (blk_cell BK180.out 1).trans rfl
                    have hcz32_2 : wr.cell? ⟨gb180, 2, none⟩ = some (.string a0_2) := (blk_cell BK180.out 2).trans rfl
                    have hcz32_3 : wr.cell? ⟨gb180, 3, none⟩ = some (.slice A0_3 l0_3.length c0_3) := (blk_cell BK180.out 3).trans rfl
                    have hfz32_0 := blk_frozen BK180.out 0
                    have hfz32_1 := blk_frozen BK180.out 1
                    have hfz32_2 := blk_frozen BK180.out 2
                    have hfz32_3 := blk_frozen BK180.out 3
                    try go_wp2
                    have n0_ := Aside0.mk (blk_drew BK180.out)
                    have n1_ := Aside0.mk (blk_drew BK181.out)
                    have n2_ := Aside0.mk (below_drew1 HB.out)
                    clear BK180
                    clear BK181
                    clear HB
                    have BK180 := n0_
                    have BK181 := n1_
                    have HB := n2_
                    clear n0_ n1_ n2_
                    have p182 : 0 ≤ (x5_2 : Int) := of_decide_eq_true (by first | (with_reducible assumption) | assumption)
                    have q182 : x5_2 < (l0_3.length : Int) := of_decide_eq_true (by first | (with_reducible assumption) | assumption)
                    obtain ⟨ad182, A182_3, c182_3, e182, hx182_0, hx182_1, hx182_2, hx182_3, hl182_3, hi182_3⟩ := at_T24 HR0_3.out x5_2 p182 q182
                    have hw182_3 := hx182_3
                    have hw182_2 := hx182_2
                    have hw182_1 := hx182_1
                    have hw182_0 := hx182_0
                    cases e182
                    replace hx182_0 := (HB.out.cell (World.block_lt_of_cell? w _ hx182_0)).trans hx182_0
                    replace hx182_1 := (HB.out.cell (World.block_lt_of_cell? w _ hx182_1)).trans hx182_1
                    replace hx182_2 := (HB.out.cell (World.block_lt_of_cell? w _ hx182_2)).trans hx182_2
                    replace hx182_3 := (HB.out.cell (World.block_lt_of_cell? w _ hx182_3)).trans hx182_3
                    have HR182_3 := Aside0.mk hi182_3
                    have HC182_3 := Aside0.mk hl182_3
                    clear hi182_3 hl182_3
                    replace p182 := eq_true p182
                    replace q182 := eq_true q182
                    have p183 : 0 ≤ (x5_2 : Int) := of_decide_eq_true (by first | (with_reducible assumption) | assumption)
                    have q183 : x5_2 < (l1_3.length : Int) := of_decide_eq_true (by first | (with_reducible assumption) | assumption)
                    obtain ⟨ad183, A183_3, c183_3, e183, hx183_0, hx183_1, hx183_2, hx183_3, hl183_3, hi183_3⟩ := at_T24 HR1_3.out x5_2 p183 q183
                    have hw183_3 := hx183_3
                    have hw183_2 := hx183_2
                    have hw183_1 := hx183_1
                    have hw183_0 := hx183_0
                    cases e183
                    replace hx183_0 := (HB.out.cell (World.block_lt_of_cell? w _ hx183_0)).trans hx183_0
                    replace hx183_1 := (HB.out.cell (World.block_lt_of_cell? w _ hx183_1)).trans hx183_1
                    replace hx183_2 := (HB.out.cell (World.block_lt_of_cell? w _ hx183_2)).trans hx183_2
                    replace hx183_3 := (HB.out.cell (World.block_lt_of_cell? w _ hx183_3)).trans hx183_3
                    have HR183_3 := Aside0.mk hi183_3
                    have HC183_3 := Aside0.mk hl183_3
                    clear hi183_3 hl183_3
                    replace p183 := eq_true p183
                    replace q183 := eq_true q183
                    refine start_ (n := 12) (S := fun w' => w'.cell? ⟨gb180, 0, none⟩ = some (.int .u8 a0_0) ∧ w'.cell? ⟨gb180, 1, none⟩ = some (.int .i64 a0_1) ∧ w'.cell? ⟨gb180, 2, none⟩ = some (.string a0_2) ∧ w'.cell? ⟨gb180, 3, none⟩ = some (.slice (some ad182) l0_3.length c0_3) ∧ w'.cell? ⟨gb181, 0, none⟩ = some (.int .u8 a1_0) ∧ w'.cell? ⟨gb181, 1, none⟩ = some (.int .i64 a1_1) ∧ w'.cell? ⟨gb181, 2, none⟩ = some (.string a1_2) ∧ w'.cell? ⟨gb181, 3, none⟩ = some (.slice (some ad183) l1_3.length c1_3) ∧ w'.cell? (ad182.add ((x5_2).toNat * 4)) = some (.int .u8 ((rd_T24 l0_3 x5_2).f0)) ∧ w'.cell? ⟨(ad182.add ((x5_2).toNat * 4)).block, (ad182.add ((x5_2).toNat * 4)).off + 1, none⟩ = some (.int .i64 ((rd_T24 l0_3 x5_2).f1)) ∧ w'.cell? ⟨(ad182.add ((x5_2).toNat * 4)).block, (ad182.add ((x5_2).toNat * 4)).off + 2, none⟩ = some (.string ((rd_T24 l0_3 x5_2).f2)) ∧ w'.cell? ⟨(ad182.add ((x5_2).toNat * 4)).block, (ad182.add ((x5_2).toNat * 4)).off + 3, none⟩ = some (.slice A182_3 ((rd_T24 l0_3 x5_2).f3).length c182_3) ∧ w'.cell? (ad183.add ((x5_2).toNat * 4)) = some (.int .u8 ((rd_T24 l1_3 x5_2).f0)) ∧ w'.cell? ⟨(ad183.add ((x5_2).toNat * 4)).block, (ad183.add ((x5_2).toNat * 4)).off + 1, none⟩ = some (.int .i64 ((rd_T24 l1_3 x5_2).f1)) ∧ w'.cell? ⟨(ad183.add ((x5_2).toNat * 4)).block, (ad183.add ((x5_2).toNat * 4)).off + 2, none⟩ = some (.string ((rd_T24 l1_3 x5_2).f2)) ∧ w'.cell? ⟨(ad183.add ((x5_2).toNat * 4)).block, (ad183.add ((x5_2).toNat * 4)).off + 3, none⟩ = some (.slice A183_3 ((rd_T24 l1_3 x5_2).f3).length c183_3)) (ds := []) #[false, false, false, false, false, false, false, false, false, false, false, false] (by kernel_rfl) rfl rfl ⟨(blk_cell BK180.out 0).trans rfl, (blk_cell BK180.out 1).trans rfl, (blk_cell BK180.out 2).trans rfl, (blk_cell BK180.out 3).trans rfl, (blk_cell BK181.out 0).trans rfl, (blk_cell BK181.out 1).trans rfl, (blk_cell BK181.out 2).trans rfl, (blk_cell BK181.out 3).trans rfl, ((HB.out.cell (World.block_lt_of_cell? w _ hw182_0)).trans hw182_0), ((HB.out.cell (World.block_lt_of_cell? w _ hw182_1)).trans hw182_1), ((HB.out.cell (World.block_lt_of_cell? w _ hw182_2)).trans hw182_2), ((HB.out.cell (World.block_lt_of_cell? w _ hw182_3)).trans hw182_3), ((HB.out.cell (World.block_lt_of_cell? w _ hw183_0)).trans hw183_0), ((HB.out.cell (World.block_lt_of_cell? w _ hw183_1)).trans hw183_1), ((HB.out.cell (World.block_lt_of_cell? w _ hw183_2)).trans hw183_2), ((HB.out.cell (World.block_lt_of_cell? w _ hw183_3)).trans hw183_3)⟩ (fun hHeld => ?_); refine with_tabW ontimeref12_Equal.tab6 ontimeref12_Equal.bits6 (fun HT_ HW_ => ?_)
                    generalize wr.drew = w33 at BK180 BK181 HB HR182_3 HR183_3 hx182_0 hx182_1 hx182_2 hx182_3 hx183_0 hx183_1 hx183_2 hx183_3 hHeld ⊢
                    refine pure_ (i := 0) (N := some 41) (v := ?_) (a' := ?_) #[true, false, false, false, false, false, false, false, false, false, false, false] rfl rfl (any_of HT_.out (by kernel_rfl)) (fun _ _ _ h => h) (Or.inl ⟨by rfl, ?_⟩) ?_ ?_
                    rotate_left
                    · intro w'
                      go_simp
                      with_reducible rfl
                    rotate_left
                    · simp only [Act.put, List.setIfInBounds_toArray, List.set_cons_zero, List.set_cons_succ, i64_w, i32_w]
                      rfl
                    refine pure_ (i := 2) (N := some 43) (v := ?_) (a' := ?_) #[true, false, true, false, false, false, false, false, false, false, false, false] rfl rfl (any_of HT_.out (by kernel_rfl)) (fun _ _ _ h => h) (Or.inl ⟨by rfl, ?_⟩) ?_ ?_
                    rotate_left
                    · intro w'
                      go_simp
                      with_reducible rfl
                    rotate_left
                    · simp only [Act.put, List.setIfInBounds_toArray, List.set_cons_zero, List.set_cons_succ, i64_w, i32_w]
                      rfl
                    refine pure_ (i := 5) (N := some 46) (v := ?_) (a' := ?_) #[true, false, true, false, false, true, false, false, false, false, false, false] rfl rfl (any_of HT_.out (by kernel_rfl)) (fun _ _ _ h => h) (Or.inl ⟨by rfl, ?_⟩) ?_ ?_
                    rotate_left
                    · intro w'
                      go_simp
                      with_reducible rfl
                    rotate_left
                    · simp only [Act.put, List.setIfInBounds_toArray, List.set_cons_zero, List.set_cons_succ, i64_w, i32_w]
                      rfl
                    refine pure_ (i := 7) (N := some 48) (v := ?_) (a' := ?_) #[true, false, true, false, false, true, false, true, false, false, false, false] rfl rfl (any_of HT_.out (by kernel_rfl)) (fun _ _ _ h => h) (Or.inl ⟨by rfl, ?_⟩) ?_ ?_
                    rotate_left
                    · intro w'
                      go_simp
                      with_reducible rfl
                    rotate_left
                    · simp only [Act.put, List.setIfInBounds_toArray, List.set_cons_zero, List.set_cons_succ, i64_w, i32_w]
                      rfl
                    refine take_ (i := 1) (N := some 42) (v := ?_) (a' := ?_) #[true, true, true, false, false, true, false, true, false, false, false, false] rfl rfl (take_ofW HT_.out HW_.out (by kernel_rfl)) (fun _ _ _ h => h) (Or.inl ⟨by rfl, ?_⟩) hHeld ?_ ?_
                    rotate_left
                    · rintro w' ⟨s0, s1, s2, s3, s4, s5, s6, s7, s8, s9, s10, s11, s12, s13, s14, s15⟩
                      go_simp
                      with_reducible rfl
                    rotate_left
                    · simp only [Act.put, List.setIfInBounds_toArray, List.set_cons_zero, List.set_cons_succ, i64_w, i32_w]
                      rfl
                    refine pure_ (i := 3) (N := some 44) (v := ?_) (a' := ?_) #[true, true, true, true, false, true, false, true, false, false, false, false] rfl rfl (any_of HT_.out (by kernel_rfl)) (fun _ _ _ h => h) (Or.inl ⟨by rfl, ?_⟩) ?_ ?_
                    rotate_left
                    · intro w'
                      go_simp
                      with_reducible rfl
                    rotate_left
                    · simp only [Act.put, List.setIfInBounds_toArray, List.set_cons_zero, List.set_cons_succ, i64_w, i32_w]
                      rfl
                    refine take_ (i := 4) (N := some 45) (v := ?_) (a' := ?_) #[true, true, true, true, true, true, false, true, false, false, false, false] rfl rfl (take_ofW HT_.out HW_.out (by kernel_rfl)) (fun _ _ _ h => h) (Or.inl ⟨by rfl, ?_⟩) hHeld ?_ ?_
                    rotate_left
                    · rintro w' ⟨s0, s1, s2, s3, s4, s5, s6, s7, s8, s9, s10, s11, s12, s13, s14, s15⟩
                      go_simp
                      with_reducible rfl
                    rotate_left
                    · simp only [Act.put, List.setIfInBounds_toArray, List.set_cons_zero, List.set_cons_succ, i64_w, i32_w]
                      rfl
                    refine take_ (i := 6) (N := some 47) (v := ?_) (a' := ?_) #[true, true, true, true, true, true, true, true, false, false, false, false] rfl rfl (take_ofW HT_.out HW_.out (by kernel_rfl)) (fun _ _ _ h => h) (Or.inl ⟨by rfl, ?_⟩) hHeld ?_ ?_
                    rotate_left
                    · rintro w' ⟨s0, s1, s2, s3, s4, s5, s6, s7, s8, s9, s10, s11, s12, s13, s14, s15⟩
                      go_simp
                      with_reducible rfl
                    rotate_left
                    · simp only [Act.put, List.setIfInBounds_toArray, List.set_cons_zero, List.set_cons_succ, i64_w, i32_w]
                      rfl
                    refine pure_ (i := 8) (N := some 49) (v := ?_) (a' := ?_) #[true, true, true, true, true, true, true, true, true, false, false, false] rfl rfl (any_of HT_.out (by kernel_rfl)) (fun _ _ _ h => h) (Or.inl ⟨by rfl, ?_⟩) ?_ ?_
                    rotate_left
                    · intro w'
                      go_simp
                      with_reducible rfl
                    rotate_left
                    · simp only [Act.put, List.setIfInBounds_toArray, List.set_cons_zero, List.set_cons_succ, i64_w, i32_w]
                      rfl
                    refine take_ (i := 9) (N := some 50) (v := ?_) (a' := ?_) #[true, true, true, true, true, true, true, true, true, true, false, false] rfl rfl (take_ofW HT_.out HW_.out (by kernel_rfl)) (fun _ _ _ h => h) (Or.inl ⟨by rfl, ?_⟩) hHeld ?_ ?_
                    rotate_left
                    · rintro w' ⟨s0, s1, s2, s3, s4, s5, s6, s7, s8, s9, s10, s11, s12, s13, s14, s15⟩
                      go_simp
                      with_reducible rfl
                    rotate_left
                    · simp only [Act.put, List.setIfInBounds_toArray, List.set_cons_zero, List.set_cons_succ, i64_w, i32_w]
                      rfl
                    refine one_ (i := 10) (N := some 51) #[true, true, true, true, true, true, true, true, true, true, true, false] rfl rfl (one_of HT_.out (by kernel_rfl)) (by decide) (fun K hK => ?_)
                    refine goes_ Tryd.func38 (by kernel_rfl) rfl #[.agg #[.int .u8 ((rd_T24 l0_3 x5_2).f0), .int .i64 ((rd_T24 l0_3 x5_2).f1), .string ((rd_T24 l0_3 x5_2).f2), .slice A182_3 ((rd_T24 l0_3 x5_2).f3).length c182_3], .agg #[.int .u8 ((rd_T24 l1_3 x5_2).f0), .int .i64 ((rd_T24 l1_3 x5_2).f1), .string ((rd_T24 l1_3 x5_2).f2), .slice A183_3 ((rd_T24 l1_3 x5_2).f3).length c183_3]] (by rfl) rfl rfl (by (try simp only [List.map_toArray, List.map_cons, List.map_nil]); first | done | rfl | (simp only [List.length_drop, List.length_take]; rfl)) ?_
                    with_reducible refine (ih k2 (by have := HJ2.out; have := HK2.out; omega) ((rd_T24 l0_3 x5_2).f0) ((rd_T24 l0_3 x5_2).f1) ((rd_T24 l0_3 x5_2).f2) _ _ ((rd_T24 l0_3 x5_2).f3) ((rd_T24 l1_3 x5_2).f0) ((rd_T24 l1_3 x5_2).f1) ((rd_T24 l1_3 x5_2).f2) _ _ ((rd_T24 l1_3 x5_2).f3) false _ ?side1 ?side2 ?side3 ?side4 A25.out).mono ?_
                    (case side1 => repeat (first | exact (Kd.C_below HR182_3.out HB.out) | (with_reducible refine Kd.C_alloc ?_ _) | (with_reducible refine Kd.C_drewN ?_ _) | (with_reducible refine Kd.C_drew ?_)))
                    (case side2 => exact HC182_3.out)
                    (case side3 => repeat (first | exact (Kd.C_below HR183_3.out HB.out) | (with_reducible refine Kd.C_alloc ?_ _) | (with_reducible refine Kd.C_drewN ?_ _) | (with_reducible refine Kd.C_drew ?_)))
                    (case side4 => exact HC183_3.out)
                    rintro e w34 ⟨rfl, hb⟩
                    refine ⟨_, rfl, ?_⟩
                    have n0_ := Aside0.mk (blk_below (g := gb180) (o := .cells #[.int .u8 a0_0, .int .i64 a0_1, .string a0_2, .slice (some ad182) l0_3.length c0_3] 24 (0, 0)) (by (with_reducible repeat (first | refine blk_drewN ?_ _ | refine blk_drew ?_ | refine blk_alloc ?_ _)); exact BK180.out) hb)
                    have n1_ := Aside0.mk (blk_below (g := gb181) (o := .cells #[.int .u8 a1_0, .int .i64 a1_1, .string a1_2, .slice (some ad183) l1_3.length c1_3] 24 (0, 0)) (by (with_reducible repeat (first | refine blk_drewN ?_ _ | refine blk_drew ?_ | refine blk_alloc ?_ _)); exact BK181.out) hb)
                    have n2_ := Aside0.mk (below_step (by repeat (first | (with_reducible first | exact HB.out | apply below_alloc | apply pw_below_drewN | apply below_drew1 | refine below_set ?_ GE180.out | refine below_set ?_ GE181.out) | exact HB.out)) hb)
                    clear BK180
                    clear BK181
                    clear HB
                    have BK180 := n0_
                    have BK181 := n1_
                    have HB := n2_
                    clear n0_ n1_ n2_
                    (try clear hb)
                    (try clear hb2)
                    (try clear hk)
                    (try clear hi)
                    refine hK.out _ _ ⟨(blk_cell BK180.out 0).trans rfl, (blk_cell BK180.out 1).trans rfl, (blk_cell BK180.out 2).trans rfl, (blk_cell BK180.out 3).trans rfl, (blk_cell BK181.out 0).trans rfl, (blk_cell BK181.out 1).trans rfl, (blk_cell BK181.out 2).trans rfl, (blk_cell BK181.out 3).trans rfl, ((HB.out.cell (World.block_lt_of_cell? w _ hw182_0)).trans hw182_0), ((HB.out.cell (World.block_lt_of_cell? w _ hw182_1)).trans hw182_1), ((HB.out.cell (World.block_lt_of_cell? w _ hw182_2)).trans hw182_2), ((HB.out.cell (World.block_lt_of_cell? w _ hw182_3)).trans hw182_3), ((HB.out.cell (World.block_lt_of_cell? w _ hw183_0)).trans hw183_0), ((HB.out.cell (World.block_lt_of_cell? w _ hw183_1)).trans hw183_1), ((HB.out.cell (World.block_lt_of_cell? w _ hw183_2)).trans hw183_2), ((HB.out.cell (World.block_lt_of_cell? w _ hw183_3)).trans hw183_3)⟩ (fun hHeld => ?_)
                    clear hK K
                    refine norm_ (a' := ?_) ?_ ?_
                    rotate_left
                    · show Act.put _ (some 51) _ = _
                      simp only [Act.put, List.setIfInBounds_toArray, List.set_cons_zero, List.set_cons_succ, i64_w, i32_w]
                      rfl
                    refine pure_ (i := 11) (N := some 52) (v := ?_) (a' := ?_) #[true, true, true, true, true, true, true, true, true, true, true, true] rfl rfl (any_of HT_.out (by kernel_rfl)) (fun _ _ _ h => h) (Or.inl ⟨by rfl, ?_⟩) ?_ ?_
                    rotate_left
                    · intro w'
                      go_simp
                      with_reducible rfl
                    rotate_left
                    · simp only [Act.put, List.setIfInBounds_toArray, List.set_cons_zero, List.set_cons_succ, i64_w, i32_w]
                      rfl
                    refine done_ (done_of HT_.out (by kernel_rfl)) ?_
                    try go_wp2
                    go_ret
                    exact ⟨by first | rfl | (simp [errW_none, errW_some] <;> rfl) | (simp [*, errW_none, errW_some] <;> rfl), by repeat (first | (with_reducible first | exact HB.out | apply below_alloc | apply pw_below_drewN | apply below_drew1 | refine below_set ?_ GE180.out | refine below_set ?_ GE181.out) | exact HB.out)⟩
                · rw [if_neg c24] at H
                  exact absurd H (by simp)
              · rw [if_neg c23] at H
                exact absurd H (by simp)
            · rw [if_neg c22] at H
              have c22b0 : decide (x5_2 < (l0_3.length : Int)) = false := decide_eq_false c22
              clear c22
              obtain rfl := Option.some.inj H
              have hnb35 := NB180_181.out
              have hnc35 := NB181_180.out
              have hcz36_0 : wr.cell? ⟨gb180, 0, none⟩ = some (.int .u8 a0_0) := (blk_cell BK180.out 0).trans rfl
              have hcz36_1 : wr.cell? ⟨gb180, 1, none⟩ = some (.int .i64 a0_1) := (blk_cell BK180.out 1).trans rfl
              have hcz36_2 : wr.cell? ⟨gb180, 2, none⟩ = some (.string a0_2) := (blk_cell BK180.out 2).trans rfl
              have hcz36_3 : wr.cell? ⟨gb180, 3, none⟩ = some (.slice A0_3 l0_3.length c0_3) := (blk_cell BK180.out 3).trans rfl
              have hfz36_0 := blk_frozen BK180.out 0
              have hfz36_1 := blk_frozen BK180.out 1
              have hfz36_2 := blk_frozen BK180.out 2
              have hfz36_3 := blk_frozen BK180.out 3
              go_wp2
              go_ret
              exact ⟨by first | rfl | (simp [errW_none, errW_some] <;> rfl) | (simp [*, errW_none, errW_some] <;> rfl), by repeat (first | (with_reducible first | exact HB.out | apply below_alloc | apply pw_below_drewN | apply below_drew1 | refine below_set ?_ GE180.out | refine below_set ?_ GE181.out) | exact HB.out)⟩

end Go.Proofs.YtmdbbfoejmakdaaDoor.P

-- LAID BY A PROGRAM OF THIS SESSION (see NOTES.md), Lean checks it.
import Derived.Test.YtmdbbfoejmakdaaDoorPx0
import Derived.Test.YtmdbbfoejmakdaaDoorPx1
namespace Go.Proofs.YtmdbbfoejmakdaaDoor.P
open Go.RowKit Go.Proofs.YtmdbbfoejmakdaaDoorW.PrintWords Go.Proofs.YtmdbbfoejmakdaaDoorW.PrintLast Go.Proofs.YtmdbbfoejmakdaaDoorW.PrintMore
set_option linter.unusedVariables false
set_option linter.unusedSimpArgs false

attribute [local go_sem high] eqA71
/-! ### ontimeref12_list: function 102 -/
def ontimeref12_list.l0 : Nat → List (S71) → List (S71) → Int → Option (Bool)
  | 0, _, _, _ => none
  | k + 1, x0, x1, x5 => if x5 < (x0.length : Int) then (if 0 ≤ x5 then (if x5 < (x1.length : Int) then (if (!((((rd_T71 x0 x5).f0).toList) == (((rd_T71 x1 x5).f0).toList)) || (!(((rd_T71 x0 x5).f1) == ((rd_T71 x1 x5).f1)))) = true then (some false) else (ontimeref12_list.l0 k x0 x1 (wrap64 (x5 + 1)))) else (none)) else (none)) else (some true)
def ontimeref12_list.f (k : Nat) (l0 : List (S71)) (l1 : List (S71)) : Option (Bool) := if (l0.length : Int) = (l1.length : Int) then (ontimeref12_list.l0 k l0 l1 0) else (some false)
theorem ontimeref12_list.mono_l : ∀ k, (∀ y0 y1 y2, LeO (ontimeref12_list.l0 k y0 y1 y2) (ontimeref12_list.l0 (k + 1) y0 y1 y2))
  | 0 => fun _ _ _ r h => by simp [ontimeref12_list.l0] at h
  | k + 1 => by
    have ih0 := ontimeref12_list.mono_l k
    · intro y0 y1 y2
      unfold ontimeref12_list.l0
      repeat' first
      | (with_reducible exact ih0 _ _ _)
      | (with_reducible exact LeO.refl _)
      | (with_reducible exact LeO.none _)
      | (with_reducible refine LeO.ite ?_ ?_)
      | (with_reducible refine LeO.bind ?_ (fun _ => ?_))
      | exact ih0 _ _ _
      | exact LeO.none _
      | refine LeO.ite ?_ ?_
      | refine LeO.bind ?_ (fun _ => ?_)
theorem ontimeref12_list.mono : ∀ a0 a1 k, LeO (ontimeref12_list.f k a0 a1) (ontimeref12_list.f (k + 1) a0 a1) := by
  intro a0 a1 k
  have ih0 := ontimeref12_list.mono_l k
  unfold ontimeref12_list.f
  repeat' first
      | (with_reducible exact ih0 _ _ _)
      | (with_reducible exact LeO.refl _)
      | (with_reducible exact LeO.none _)
      | (with_reducible refine LeO.ite ?_ ?_)
      | (with_reducible refine LeO.bind ?_ (fun _ => ?_))
      | exact ih0 _ _ _
      | exact LeO.none _
      | refine LeO.ite ?_ ?_
      | refine LeO.bind ?_ (fun _ => ?_)
set_option maxHeartbeats 8000000 in
set_option maxRecDepth 100000 in
theorem ontimeref12_list.calls (k : Nat) (A0 : Option Addr) (c0 : Nat) (l0 : List (S71)) (A1 : Option Addr) (c1 : Nat) (l1 : List (S71)) (r : Bool) (w : World) (hr0 : Kd.C k71 w A0 l0.length l0) (hc0 : l0.length ≤ c0) (hr1 : Kd.C k71 w A1 l1.length l1) (hc1 : l1.length ≤ c1) (h : ontimeref12_list.f k l0 l1 = some r) :
    Calls Tryd.prog 102 #[.slice A0 l0.length c0, .slice A1 l1.length c1] w fun e w' => e = .returned (.bool r) ∧ Drawn0 w w' := by
  have hu71 := Tryd.underlying71
  have HR0 := Aside0.mk hr0
  have HC0 := Aside0.mk hc0
  clear hr0 hc0
  have HR1 := Aside0.mk hr1
  have HC1 := Aside0.mk hc1
  clear hr1 hc1
  have H : (if (l0.length : Int) = (l1.length : Int) then (ontimeref12_list.l0 k l0 l1 0) else (some false)) = some r := h
  clear h
  by_cases c3 : (l0.length : Int) = (l1.length : Int)
  · rw [if_pos c3] at H
    have c3b0 : ((l0.length : Int) == (l1.length : Int)) = true := beq_iff_eq.mpr c3
    have c3b1 : ((l0.length : Int) != (l1.length : Int)) = false := bne_eq_false_iff_eq.mpr c3
    have c3b2 : (l0.length == l1.length) = true := by first | simpa using c3 | (simp at c3 ⊢; omega)
    clear c3
    have H' := Aside0.mk H
    clear H
    go_enter Tryd.func102, Tryd.ntmps102
    go_wp2
    repeat (go_quiet (fail); try go_wp2)
    go_loopg [5] k (fun kq v5 w' => ∃ (x5_1 : Int), v5 = .int .i64 x5_1 ∧ Aside0 (ontimeref12_list.l0 kq l0 l1 x5_1 = some r) ∧ Aside0 (kq ≤ k) ∧ Drawn0 w w')
    case atStart => exact ⟨(0), (by first | rfl | (simp; done) | (simp [*]; done)), H', ⟨Nat.le_refl _⟩, by repeat (first | exact Drawn0.refl _ | apply Drawn0.step)⟩
    case round =>
      clear H'
      try clear c1
      try clear p2
      try clear c3
      try clear c3b0
      try clear c3b1
      try clear c3b2
      obtain ⟨x5_1, rfl, HA, HK1, ⟨m1, rfl⟩⟩ := hrel
      cases gk with
      | zero => exact absurd HA.out (by simp [ontimeref12_list.l0])
      | succ k1 =>
        have H := HA.out
        clear HA
        simp only [ontimeref12_list.l0] at H
        by_cases c4 : x5_1 < (l0.length : Int)
        · rw [if_pos c4] at H
          have c4b0 : decide (x5_1 < (l0.length : Int)) = true := decide_eq_true c4
          clear c4
          by_cases c5 : 0 ≤ x5_1
          · rw [if_pos c5] at H
            have c5b0 : decide (0 ≤ x5_1) = true := decide_eq_true c5
            clear c5
            by_cases c6 : x5_1 < (l1.length : Int)
            · rw [if_pos c6] at H
              have c6b0 : decide (x5_1 < (l1.length : Int)) = true := decide_eq_true c6
              clear c6
              by_cases c7 : (!((((rd_T71 l0 x5_1).f0).toList) == (((rd_T71 l1 x5_1).f0).toList)) || (!(((rd_T71 l0 x5_1).f1) == ((rd_T71 l1 x5_1).f1)))) = true
              · rw [if_pos c7] at H
                have c7b0 : (!((((rd_T71 l0 x5_1).f0).toList) == (((rd_T71 l1 x5_1).f0).toList)) || (!(((rd_T71 l0 x5_1).f1) == ((rd_T71 l1 x5_1).f1)))) = true := c7
                clear c7
                obtain rfl := Option.some.inj H
                have p214 : 0 ≤ (x5_1 : Int) := of_decide_eq_true (by first | (with_reducible assumption) | assumption)
                have q214 : x5_1 < (l0.length : Int) := of_decide_eq_true (by first | (with_reducible assumption) | assumption)
                obtain ⟨ad214, e214, hx214_0, hx214_1⟩ := at_T71 HR0.out x5_1 p214 q214
                cases e214
                replace p214 := eq_true p214
                replace q214 := eq_true q214
                have p215 : 0 ≤ (x5_1 : Int) := of_decide_eq_true (by first | (with_reducible assumption) | assumption)
                have q215 : x5_1 < (l1.length : Int) := of_decide_eq_true (by first | (with_reducible assumption) | assumption)
                obtain ⟨ad215, e215, hx215_0, hx215_1⟩ := at_T71 HR1.out x5_1 p215 q215
                cases e215
                replace p215 := eq_true p215
                replace q215 := eq_true q215
                go_wp2
                repeat (go_quiet (fail); try go_wp2)
                go_ret
                exact ⟨by first | rfl | (simp; done) | (simp [*]; done), by repeat (first | exact Drawn0.refl _ | apply Drawn0.step)⟩
              · rw [if_neg c7] at H
                have c7b0 : (!((((rd_T71 l0 x5_1).f0).toList) == (((rd_T71 l1 x5_1).f0).toList)) || (!(((rd_T71 l0 x5_1).f1) == ((rd_T71 l1 x5_1).f1)))) = false := by simpa using c7
                clear c7
                have H' := Aside0.mk H
                clear H
                have p214 : 0 ≤ (x5_1 : Int) := of_decide_eq_true (by first | (with_reducible assumption) | assumption)
                have q214 : x5_1 < (l0.length : Int) := of_decide_eq_true (by first | (with_reducible assumption) | assumption)
                obtain ⟨ad214, e214, hx214_0, hx214_1⟩ := at_T71 HR0.out x5_1 p214 q214
                cases e214
                replace p214 := eq_true p214
                replace q214 := eq_true q214
                have p215 : 0 ≤ (x5_1 : Int) := of_decide_eq_true (by first | (with_reducible assumption) | assumption)
                have q215 : x5_1 < (l1.length : Int) := of_decide_eq_true (by first | (with_reducible assumption) | assumption)
                obtain ⟨ad215, e215, hx215_0, hx215_1⟩ := at_T71 HR1.out x5_1 p215 q215
                cases e215
                replace p215 := eq_true p215
                replace q215 := eq_true q215
                go_wp2
                repeat (go_quiet (fail); try go_wp2)
                go_roundg k1
                case measure => have := HK1.out; omega
                case rel => exact ⟨(wrap64 (x5_1 + 1)), (by first | rfl | (simp; done) | (simp [*]; done)), H', ⟨by have := HK1.out; omega⟩, by repeat (first | exact Drawn0.refl _ | apply Drawn0.step)⟩
            · rw [if_neg c6] at H
              exact absurd H (by simp)
          · rw [if_neg c5] at H
            exact absurd H (by simp)
        · rw [if_neg c4] at H
          have c4b0 : decide (x5_1 < (l0.length : Int)) = false := decide_eq_false c4
          clear c4
          obtain rfl := Option.some.inj H
          go_wp2
          repeat (go_quiet (fail); try go_wp2)
          go_ret
          exact ⟨by first | rfl | (simp; done) | (simp [*]; done), by repeat (first | exact Drawn0.refl _ | apply Drawn0.step)⟩
  · rw [if_neg c3] at H
    have c3b0 : ((l0.length : Int) == (l1.length : Int)) = false := beq_eq_false_iff_ne.mpr c3
    have c3b1 : ((l0.length : Int) != (l1.length : Int)) = true := bne_iff_ne.mpr c3
    have c3b2 : (l0.length == l1.length) = false := by first | simpa using c3 | (simp at c3 ⊢; omega)
    obtain rfl := Option.some.inj H
    go_enter Tryd.func102, Tryd.ntmps102
    go_wp2
    repeat (go_quiet (fail); try go_wp2)
    go_ret
    exact ⟨by first | rfl | (simp; done) | (simp [*]; done), by repeat (first | exact Drawn0.refl _ | apply Drawn0.step)⟩

-- NOT PRINTED: function 49 (ontimeref12_Same)

/-! ### ontimelaw12_count: function 82 -/
mutual
def ontimelaw12_count.l0 : Nat → Int → Int → List (S24) → Int → Int → Option (Int)
  | 0, _, _, _, _, _ => none
  | k + 1, x1, x5, x11, x12, x13 => if x13 < x12 then (if 0 ≤ x13 then (if x13 < (x11.length : Int) then ((ontimelaw12_count.f k ((rd_T24 x11 x13).f0) ((rd_T24 x11 x13).f1) ((rd_T24 x11 x13).f2) ((rd_T24 x11 x13).f3) (wrap64 (x1 - 1))).bind fun t230 => (if (wrap64 (x5 + t230)) ≥ 1000 then (some 1000) else (ontimelaw12_count.l0 k x1 (wrap64 (x5 + t230)) x11 x12 (wrap64 (x13 + 1))))) else (none)) else (none)) else (some x5)
def ontimelaw12_count.f : Nat → Int → Int → ByteArray → List (S24) → Int → Option (Int)
  | 0, _, _, _, _, _ => none
  | k + 1, a0_0, a0_1, a0_2, l0_3, a1 => if a1 < 1 then (some 1000) else (ontimelaw12_count.l0 k a1 1 l0_3 (l0_3.length : Int) 0)
end
theorem ontimelaw12_count.mono_l : ∀ k, (∀ y0 y1 y2 y3 y4, LeO (ontimelaw12_count.f k y0 y1 y2 y3 y4) (ontimelaw12_count.f (k + 1) y0 y1 y2 y3 y4)) ∧ (∀ y0 y1 y2 y3 y4, LeO (ontimelaw12_count.l0 k y0 y1 y2 y3 y4) (ontimelaw12_count.l0 (k + 1) y0 y1 y2 y3 y4))
  | 0 => ⟨fun _ _ _ _ _ r h => by simp [ontimelaw12_count.f] at h, fun _ _ _ _ _ r h => by simp [ontimelaw12_count.l0] at h⟩
  | k + 1 => by
    obtain ⟨ih0, ih1⟩ := ontimelaw12_count.mono_l k
    refine ⟨?_, ?_⟩
    · intro y0 y1 y2 y3 y4
      unfold ontimelaw12_count.f
      repeat' first
      | (with_reducible exact ih0 _ _ _ _ _)
      | (with_reducible exact ih1 _ _ _ _ _)
      | (with_reducible exact LeO.refl _)
      | (with_reducible exact LeO.none _)
      | (with_reducible refine LeO.ite ?_ ?_)
      | (with_reducible refine LeO.bind ?_ (fun _ => ?_))
      | exact ih0 _ _ _ _ _
      | exact ih1 _ _ _ _ _
      | exact LeO.none _
      | refine LeO.ite ?_ ?_
      | refine LeO.bind ?_ (fun _ => ?_)
    · intro y0 y1 y2 y3 y4
      unfold ontimelaw12_count.l0
      repeat' first
      | (with_reducible exact ih0 _ _ _ _ _)
      | (with_reducible exact ih1 _ _ _ _ _)
      | (with_reducible exact LeO.refl _)
      | (with_reducible exact LeO.none _)
      | (with_reducible refine LeO.ite ?_ ?_)
      | (with_reducible refine LeO.bind ?_ (fun _ => ?_))
      | exact ih0 _ _ _ _ _
      | exact ih1 _ _ _ _ _
      | exact LeO.none _
      | refine LeO.ite ?_ ?_
      | refine LeO.bind ?_ (fun _ => ?_)
theorem ontimelaw12_count.mono : ∀ a0 a1 a2 a3 a4 k, LeO (ontimelaw12_count.f k a0 a1 a2 a3 a4) (ontimelaw12_count.f (k + 1) a0 a1 a2 a3 a4) := by
  intro a0 a1 a2 a3 a4 k
  obtain ⟨ih0, ih1⟩ := ontimelaw12_count.mono_l k
  exact ih0 a0 a1 a2 a3 a4
set_option maxHeartbeats 8000000 in
set_option maxRecDepth 100000 in
theorem ontimelaw12_count.calls (k : Nat) : ∀ (a0_0 : Int) (a0_1 : Int) (a0_2 : ByteArray) (A0_3 : Option Addr) (c0_3 : Nat) (l0_3 : List (S24)) (a1 : Int) (r : Int) (w : World) (hr0_3 : Kd.C k24 w A0_3 l0_3.length l0_3) (hc0_3 : l0_3.length ≤ c0_3) (h : ontimelaw12_count.f k a0_0 a0_1 a0_2 l0_3 a1 = some r),
    Calls Tryd.prog 82 #[.agg #[.int .u8 a0_0, .int .i64 a0_1, .string a0_2, .slice A0_3 l0_3.length c0_3], .int .i64 a1] w fun e w' => e = .returned (.int .i64 r) ∧ Below w.heap.size w w' := by
  induction k using Nat.strongRecOn with
  | _ k ih =>
  intro a0_0 a0_1 a0_2 A0_3 c0_3 l0_3 a1 r w hr0_3 hc0_3 h
  cases k with
  | zero => exact absurd h (by simp [ontimelaw12_count.f])
  | succ k =>
  simp only [ontimelaw12_count.f] at h
  have hu24 := Tryd.underlying24
  have HR0_3 := Aside0.mk hr0_3
  have HC0_3 := Aside0.mk hc0_3
  clear hr0_3 hc0_3
  have HB := Aside0.mk (Below.refl w.heap.size w)
  have H : (if a1 < 1 then (some 1000) else (ontimelaw12_count.l0 k a1 1 l0_3 (l0_3.length : Int) 0)) = some r := h
  clear h
  by_cases c3 : a1 < 1
  · rw [if_pos c3] at H
    have c3b0 : decide (a1 < 1) = true := decide_eq_true c3
    clear c3
    obtain rfl := Option.some.inj H
    go_enter Tryd.func82, Tryd.ntmps82
    go_wp2_with (first | ((with_reducible refine gate_dst (N := 2) rfl ?_); refine box_event ?hg (N := 2) ?hd (cs := #[.int .u8 a0_0, .int .i64 a0_1, .string a0_2, .slice A0_3 l0_3.length c0_3]) (t := 24) ?hr ?_; (case hd => rfl); (case hg => rfl); (case hr => first | (go_simp; done) | (go_simp; rfl)); intro gb227 hg w4 hbox hb; have n0_ := Aside0.mk (below_step (by repeat (first | (with_reducible first | exact HB.out | apply below_alloc | apply pw_below_drewN | apply below_drew1) | exact HB.out)) hb); have n1_ := Aside0.mk (hbox); have n2_ := Aside0.mk ((by rw [hg]; exact (below_size (by repeat (first | (with_reducible first | exact HB.out | apply below_alloc | apply pw_below_drewN | apply below_drew1) | exact HB.out))) : w.heap.size ≤ gb227)); have n3_ := Aside0.mk ((by rw [hg]; exact (below_size (by repeat (first | (with_reducible first | exact HB.out | apply below_alloc | apply pw_below_drewN | apply below_drew1) | exact HB.out))) : w.heap.size ≤ gb227)); clear HB; have HB := n0_; have BK227 := n1_; have GW227 := n2_; have GE227 := n3_; clear n0_ n1_ n2_ n3_; clear hb hbox hg))
    go_ret
    exact ⟨by first | rfl | (simp [errW_none, errW_some] <;> rfl) | (simp [*, errW_none, errW_some] <;> rfl), by repeat (first | (with_reducible first | exact HB.out | apply below_alloc | apply pw_below_drewN | apply below_drew1 | refine below_set ?_ GE227.out) | exact HB.out)⟩
  · rw [if_neg c3] at H
    have c3b0 : decide (a1 < 1) = false := decide_eq_false c3
    clear c3
    have H' := Aside0.mk H
    clear H
    go_enter Tryd.func82, Tryd.ntmps82
    go_wp2_with (first | ((with_reducible refine gate_dst (N := 2) rfl ?_); refine box_event ?hg (N := 2) ?hd (cs := #[.int .u8 a0_0, .int .i64 a0_1, .string a0_2, .slice A0_3 l0_3.length c0_3]) (t := 24) ?hr ?_; (case hd => rfl); (case hg => rfl); (case hr => first | (go_simp; done) | (go_simp; rfl)); intro gb227 hg w5 hbox hb; have n0_ := Aside0.mk (below_step (by repeat (first | (with_reducible first | exact HB.out | apply below_alloc | apply pw_below_drewN | apply below_drew1) | exact HB.out)) hb); have n1_ := Aside0.mk (hbox); have n2_ := Aside0.mk ((by rw [hg]; exact (below_size (by repeat (first | (with_reducible first | exact HB.out | apply below_alloc | apply pw_below_drewN | apply below_drew1) | exact HB.out))) : w.heap.size ≤ gb227)); have n3_ := Aside0.mk ((by rw [hg]; exact (below_size (by repeat (first | (with_reducible first | exact HB.out | apply below_alloc | apply pw_below_drewN | apply below_drew1) | exact HB.out))) : w.heap.size ≤ gb227)); clear HB; have HB := n0_; have BK227 := n1_; have GW227 := n2_; have GE227 := n3_; clear n0_ n1_ n2_ n3_; clear hb hbox hg; have hcz6_0 : w5.cell? ⟨gb227, 0, none⟩ = some (.int .u8 a0_0) := (blk_cell BK227.out 0).trans rfl; have hcz6_1 : w5.cell? ⟨gb227, 1, none⟩ = some (.int .i64 a0_1) := (blk_cell BK227.out 1).trans rfl; have hcz6_2 : w5.cell? ⟨gb227, 2, none⟩ = some (.string a0_2) := (blk_cell BK227.out 2).trans rfl; have hcz6_3 : w5.cell? ⟨gb227, 3, none⟩ = some (.slice A0_3 l0_3.length c0_3) := (blk_cell BK227.out 3).trans rfl; have hfz6_0 := blk_frozen BK227.out 0; have hfz6_1 := blk_frozen BK227.out 1; have hfz6_2 := blk_frozen BK227.out 2; have hfz6_3 := blk_frozen BK227.out 3))
    go_loopg [5, 13] k (fun kq v5 v13 w' => ∃ (x5_1 : Int) (x13_1 : Int), v5 = .int .i64 x5_1 ∧ v13 = .int .i64 x13_1 ∧ Aside0 (ontimelaw12_count.l0 kq a1 x5_1 l0_3 (l0_3.length : Int) x13_1 = some r) ∧ Aside0 (kq ≤ k) ∧ Aside0 (w'.heap[gb227]? = some (.cells #[.int .u8 a0_0, .int .i64 a0_1, .string a0_2, (.slice A0_3 l0_3.length c0_3)] 24 (0, 0))) ∧ Aside0 (Below w.heap.size w w'))
    case atStart => exact ⟨(1), (0), (by first | rfl | (simp; done) | (simp [*]; done)), (by first | rfl | (simp; done) | (simp [*]; done)), H', ⟨Nat.le_refl _⟩, ⟨by (with_reducible repeat (first | refine blk_drewN ?_ _ | refine blk_drew ?_ | refine blk_alloc ?_ _)); exact BK227.out⟩, ⟨by repeat (first | (with_reducible first | exact HB.out | apply below_alloc | apply pw_below_drewN | apply below_drew1 | refine below_set ?_ GE227.out) | exact HB.out)⟩⟩
    case round =>
      clear H'
      try clear p2
      try clear c3
      try clear c3b0
      try clear hcz6_0
      try clear hcz6_1
      try clear hcz6_2
      try clear hcz6_3
      try clear hfz6_0
      try clear hfz6_1
      try clear hfz6_2
      try clear hfz6_3
      obtain ⟨x5_1, x13_1, rfl, rfl, HA, HK1, BK227, HB⟩ := hrel
      cases gk with
      | zero => exact absurd HA.out (by simp [ontimelaw12_count.l0])
      | succ k1 =>
        have H := HA.out
        clear HA
        simp only [ontimelaw12_count.l0] at H
        by_cases c7 : x13_1 < (l0_3.length : Int)
        · rw [if_pos c7] at H
          have c7b0 : decide (x13_1 < (l0_3.length : Int)) = true := decide_eq_true c7
          clear c7
          by_cases c8 : 0 ≤ x13_1
          · rw [if_pos c8] at H
            have c8b0 : decide (0 ≤ x13_1) = true := decide_eq_true c8
            clear c8
            by_cases c9 : x13_1 < (l0_3.length : Int)
            · rw [if_pos c9] at H
              have c9b0 : decide (x13_1 < (l0_3.length : Int)) = true := decide_eq_true c9
              clear c9
              replace H := Option.bind_eq_some_iff.mp H
              obtain ⟨t230, A100, H⟩ := H
              replace H : (if (wrap64 (x5_1 + t230)) ≥ 1000 then (some 1000) else (ontimelaw12_count.l0 k1 a1 (wrap64 (x5_1 + t230)) l0_3 (l0_3.length : Int) (wrap64 (x13_1 + 1)))) = some r := H
              have A10 := Aside0.mk A100
              clear A100
              by_cases c11 : (wrap64 (x5_1 + t230)) ≥ 1000
              · rw [if_pos c11] at H
                have c11b0 : decide (1000 ≤ (wrap64 (x5_1 + t230))) = true := decide_eq_true c11
                clear c11
                obtain rfl := Option.some.inj H
                have p228 : 0 ≤ (x13_1 : Int) := of_decide_eq_true (by first | (with_reducible assumption) | assumption)
                have q228 : x13_1 < (l0_3.length : Int) := of_decide_eq_true (by first | (with_reducible assumption) | assumption)
                obtain ⟨ad228, A228_3, c228_3, e228, hx228_0, hx228_1, hx228_2, hx228_3, hl228_3, hi228_3⟩ := at_T24 HR0_3.out x13_1 p228 q228
                cases e228
                replace hx228_0 := (HB.out.cell (World.block_lt_of_cell? w _ hx228_0)).trans hx228_0
                replace hx228_1 := (HB.out.cell (World.block_lt_of_cell? w _ hx228_1)).trans hx228_1
                replace hx228_2 := (HB.out.cell (World.block_lt_of_cell? w _ hx228_2)).trans hx228_2
                replace hx228_3 := (HB.out.cell (World.block_lt_of_cell? w _ hx228_3)).trans hx228_3
                have HR228_3 := Aside0.mk hi228_3
                have HC228_3 := Aside0.mk hl228_3
                clear hi228_3 hl228_3
                replace p228 := eq_true p228
                replace q228 := eq_true q228
                go_wp2_with (first | ((with_reducible refine gate_dst (N := 7) rfl ?_); refine box_event ?hg (N := 7) ?hd (cs := #[.int .u8 0, .int .i64 0, .string (⟨#[]⟩ : ByteArray), .slice none 0 0]) (t := 24) ?hr ?_; (case hd => rfl); (case hg => rfl); (case hr => first | (go_simp; done) | (go_simp; rfl)); intro gb229 hg w12 hbox hb; have n0_ := Aside0.mk (blk_below (g := gb227) (o := .cells #[.int .u8 a0_0, .int .i64 a0_1, .string a0_2, .slice (some ad228) l0_3.length c0_3] 24 (0, 0)) (by (with_reducible repeat (first | refine blk_drewN ?_ _ | refine blk_drew ?_ | refine blk_alloc ?_ _)); exact BK227.out) hb); have n1_ := Aside0.mk (below_step (by repeat (first | (with_reducible first | exact HB.out | apply below_alloc | apply pw_below_drewN | apply below_drew1 | refine below_set ?_ GE227.out) | exact HB.out)) hb); have n2_ := Aside0.mk (hbox); have n3_ := Aside0.mk ((by rw [hg]; exact (below_size (by repeat (first | (with_reducible first | exact HB.out | apply below_alloc | apply pw_below_drewN | apply below_drew1 | refine below_set ?_ GE227.out) | exact HB.out))) : w.heap.size ≤ gb229)); have n4_ := Aside0.mk ((by rw [hg]; exact (below_size (by repeat (first | (with_reducible first | exact HB.out | apply below_alloc | apply pw_below_drewN | apply below_drew1 | refine below_set ?_ GE227.out) | exact HB.out))) : w.heap.size ≤ gb229)); have n5_ := Aside0.mk ((by rw [hg]; exact Nat.ne_of_lt (blk_lt (g := gb227) (o := .cells #[.int .u8 a0_0, .int .i64 a0_1, .string a0_2, .slice (some ad228) l0_3.length c0_3] 24 (0, 0)) (by (with_reducible repeat (first | refine blk_drewN ?_ _ | refine blk_drew ?_ | refine blk_alloc ?_ _)); exact BK227.out)) : gb227 ≠ gb229)); have n6_ := Aside0.mk ((by rw [hg]; exact Nat.ne_of_gt (blk_lt (g := gb227) (o := .cells #[.int .u8 a0_0, .int .i64 a0_1, .string a0_2, .slice (some ad228) l0_3.length c0_3] 24 (0, 0)) (by (with_reducible repeat (first | refine blk_drewN ?_ _ | refine blk_drew ?_ | refine blk_alloc ?_ _)); exact BK227.out)) : gb229 ≠ gb227)); clear BK227; clear HB; have BK227 := n0_; have HB := n1_; have BK229 := n2_; have GW229 := n3_; have GE229 := n4_; have NB227_229 := n5_; have NB229_227 := n6_; clear n0_ n1_ n2_ n3_ n4_ n5_ n6_; clear hb hbox hg; have hnb13 := NB229_227.out; have hnc13 := NB227_229.out; have hcz14_0 : w12.cell? ⟨gb229, 0, none⟩ = some (.int .u8 0) := (blk_cell BK229.out 0).trans rfl; have hcz14_1 : w12.cell? ⟨gb229, 1, none⟩ = some (.int .i64 0) := (blk_cell BK229.out 1).trans rfl; have hcz14_2 : w12.cell? ⟨gb229, 2, none⟩ = some (.string (⟨#[]⟩ : ByteArray)) := (blk_cell BK229.out 2).trans rfl; have hcz14_3 : w12.cell? ⟨gb229, 3, none⟩ = some (.slice none 0 0) := (blk_cell BK229.out 3).trans rfl; have hfz14_0 := blk_frozen BK229.out 0; have hfz14_1 := blk_frozen BK229.out 1; have hfz14_2 := blk_frozen BK229.out 2; have hfz14_3 := blk_frozen BK229.out 3) | ((with_reducible refine gate_callee (f := 82) rfl ?_); refine goesL_ (some 21) rfl rfl Tryd.func82 (by kernel_rfl) rfl #[.agg #[.int .u8 ((rd_T24 l0_3 x13_1).f0), .int .i64 ((rd_T24 l0_3 x13_1).f1), .string ((rd_T24 l0_3 x13_1).f2), .slice A228_3 ((rd_T24 l0_3 x13_1).f3).length c228_3], .int .i64 (wrap64 (a1 - 1))] rfl (by (try simp only [List.map_toArray, List.map_cons, List.map_nil]); first | done | rfl | (simp only [List.length_drop, List.length_take]; rfl)) ?_; (with_reducible refine (ih k1 (by have := HK1.out; omega) ((rd_T24 l0_3 x13_1).f0) ((rd_T24 l0_3 x13_1).f1) ((rd_T24 l0_3 x13_1).f2) _ _ ((rd_T24 l0_3 x13_1).f3) (wrap64 (a1 - 1)) t230 _ ?side1 ?side2 A10.out).mono ?_); (case side1 => exact Kd.C_below HR228_3.out (by repeat (first | (with_reducible first | exact HB.out | apply below_alloc | apply pw_below_drewN | apply below_drew1 | refine below_set ?_ GE227.out | refine below_set ?_ GE229.out) | exact HB.out))); (case side2 => exact HC228_3.out); rintro e w15 ⟨rfl, hb⟩; refine ⟨_, rfl, ?_⟩; have n0_ := Aside0.mk (blk_below (g := gb227) (o := .cells #[.int .u8 a0_0, .int .i64 a0_1, .string a0_2, .slice (some ad228) l0_3.length c0_3] 24 (0, 0)) (by (with_reducible repeat (first | refine blk_drewN ?_ _ | refine blk_drew ?_ | refine blk_alloc ?_ _)); refine blk_far ?_ NB227_229.out _; (with_reducible repeat (first | refine blk_drewN ?_ _ | refine blk_drew ?_ | refine blk_alloc ?_ _)); refine blk_far ?_ NB227_229.out _; (with_reducible repeat (first | refine blk_drewN ?_ _ | refine blk_drew ?_ | refine blk_alloc ?_ _)); refine blk_far ?_ NB227_229.out _; (with_reducible repeat (first | refine blk_drewN ?_ _ | refine blk_drew ?_ | refine blk_alloc ?_ _)); refine blk_far ?_ NB227_229.out _; (with_reducible repeat (first | refine blk_drewN ?_ _ | refine blk_drew ?_ | refine blk_alloc ?_ _)); exact BK227.out) hb); have n1_ := Aside0.mk (blk_below (g := gb229) (o := .cells #[.int .u8 ((rd_T24 l0_3 x13_1).f0), .int .i64 ((rd_T24 l0_3 x13_1).f1), .string ((rd_T24 l0_3 x13_1).f2), .slice A228_3 ((rd_T24 l0_3 x13_1).f3).length c228_3] 24 (0, 0)) (by (with_reducible repeat (first | refine blk_drewN ?_ _ | refine blk_drew ?_ | refine blk_alloc ?_ _)); refine blk_put (cs := #[.int .u8 ((rd_T24 l0_3 x13_1).f0), .int .i64 ((rd_T24 l0_3 x13_1).f1), .string ((rd_T24 l0_3 x13_1).f2), .slice none 0 0]) ?_ 3 _ rfl; (with_reducible repeat (first | refine blk_drewN ?_ _ | refine blk_drew ?_ | refine blk_alloc ?_ _)); refine blk_put (cs := #[.int .u8 ((rd_T24 l0_3 x13_1).f0), .int .i64 ((rd_T24 l0_3 x13_1).f1), .string (⟨#[]⟩ : ByteArray), .slice none 0 0]) ?_ 2 _ rfl; (with_reducible repeat (first | refine blk_drewN ?_ _ | refine blk_drew ?_ | refine blk_alloc ?_ _)); refine blk_put (cs := #[.int .u8 ((rd_T24 l0_3 x13_1).f0), .int .i64 0, .string (⟨#[]⟩ : ByteArray), .slice none 0 0]) ?_ 1 _ rfl; (with_reducible repeat (first | refine blk_drewN ?_ _ | refine blk_drew ?_ | refine blk_alloc ?_ _)); refine blk_put (cs := #[.int .u8 0, .int .i64 0, .string (⟨#[]⟩ : ByteArray), .slice none 0 0]) ?_ 0 _ rfl; (with_reducible repeat (first | refine blk_drewN ?_ _ | refine blk_drew ?_ | refine blk_alloc ?_ _)); exact BK229.out) hb); have n2_ := Aside0.mk (below_step (by repeat (first | (with_reducible first | exact HB.out | apply below_alloc | apply pw_below_drewN | apply below_drew1 | refine below_set ?_ GE227.out | refine below_set ?_ GE229.out) | exact HB.out)) hb); clear BK227; clear BK229; clear HB; have BK227 := n0_; have BK229 := n1_; have HB := n2_; clear n0_ n1_ n2_; (try clear hb); (try clear hb2); (try clear hk); (try clear hi)))
                go_ret
                exact ⟨by first | rfl | (simp [errW_none, errW_some] <;> rfl) | (simp [*, errW_none, errW_some] <;> rfl), by repeat (first | (with_reducible first | exact HB.out | apply below_alloc | apply pw_below_drewN | apply below_drew1 | refine below_set ?_ GE227.out | refine below_set ?_ GE229.out) | exact HB.out)⟩
              · rw [if_neg c11] at H
                have c11b0 : decide (1000 ≤ (wrap64 (x5_1 + t230))) = false := decide_eq_false c11
                clear c11
                have H' := Aside0.mk H
                clear H
                have p228 : 0 ≤ (x13_1 : Int) := of_decide_eq_true (by first | (with_reducible assumption) | assumption)
                have q228 : x13_1 < (l0_3.length : Int) := of_decide_eq_true (by first | (with_reducible assumption) | assumption)
                obtain ⟨ad228, A228_3, c228_3, e228, hx228_0, hx228_1, hx228_2, hx228_3, hl228_3, hi228_3⟩ := at_T24 HR0_3.out x13_1 p228 q228
                cases e228
                replace hx228_0 := (HB.out.cell (World.block_lt_of_cell? w _ hx228_0)).trans hx228_0
                replace hx228_1 := (HB.out.cell (World.block_lt_of_cell? w _ hx228_1)).trans hx228_1
                replace hx228_2 := (HB.out.cell (World.block_lt_of_cell? w _ hx228_2)).trans hx228_2
                replace hx228_3 := (HB.out.cell (World.block_lt_of_cell? w _ hx228_3)).trans hx228_3
                have HR228_3 := Aside0.mk hi228_3
                have HC228_3 := Aside0.mk hl228_3
                clear hi228_3 hl228_3
                replace p228 := eq_true p228
                replace q228 := eq_true q228
                go_wp2_with (first | ((with_reducible refine gate_dst (N := 7) rfl ?_); refine box_event ?hg (N := 7) ?hd (cs := #[.int .u8 0, .int .i64 0, .string (⟨#[]⟩ : ByteArray), .slice none 0 0]) (t := 24) ?hr ?_; (case hd => rfl); (case hg => rfl); (case hr => first | (go_simp; done) | (go_simp; rfl)); intro gb229 hg w16 hbox hb; have n0_ := Aside0.mk (blk_below (g := gb227) (o := .cells #[.int .u8 a0_0, .int .i64 a0_1, .string a0_2, .slice (some ad228) l0_3.length c0_3] 24 (0, 0)) (by (with_reducible repeat (first | refine blk_drewN ?_ _ | refine blk_drew ?_ | refine blk_alloc ?_ _)); exact BK227.out) hb); have n1_ := Aside0.mk (below_step (by repeat (first | (with_reducible first | exact HB.out | apply below_alloc | apply pw_below_drewN | apply below_drew1 | refine below_set ?_ GE227.out) | exact HB.out)) hb); have n2_ := Aside0.mk (hbox); have n3_ := Aside0.mk ((by rw [hg]; exact (below_size (by repeat (first | (with_reducible first | exact HB.out | apply below_alloc | apply pw_below_drewN | apply below_drew1 | refine below_set ?_ GE227.out) | exact HB.out))) : w.heap.size ≤ gb229)); have n4_ := Aside0.mk ((by rw [hg]; exact (below_size (by repeat (first | (with_reducible first | exact HB.out | apply below_alloc | apply pw_below_drewN | apply below_drew1 | refine below_set ?_ GE227.out) | exact HB.out))) : w.heap.size ≤ gb229)); have n5_ := Aside0.mk ((by rw [hg]; exact Nat.ne_of_lt (blk_lt (g := gb227) (o := .cells #[.int .u8 a0_0, .int .i64 a0_1, .string a0_2, .slice (some ad228) l0_3.length c0_3] 24 (0, 0)) (by (with_reducible repeat (first | refine blk_drewN ?_ _ | refine blk_drew ?_ | refine blk_alloc ?_ _)); exact BK227.out)) : gb227 ≠ gb229)); have n6_ := Aside0.mk ((by rw [hg]; exact Nat.ne_of_gt (blk_lt (g := gb227) (o := .cells #[.int .u8 a0_0, .int .i64 a0_1, .string a0_2, .slice (some ad228) l0_3.length c0_3] 24 (0, 0)) (by (with_reducible repeat (first | refine blk_drewN ?_ _ | refine blk_drew ?_ | refine blk_alloc ?_ _)); exact BK227.out)) : gb229 ≠ gb227)); clear BK227; clear HB; have BK227 := n0_; have HB := n1_; have BK229 := n2_; have GW229 := n3_; have GE229 := n4_; have NB227_229 := n5_; have NB229_227 := n6_; clear n0_ n1_ n2_ n3_ n4_ n5_ n6_; clear hb hbox hg; have hnb17 := NB229_227.out; have hnc17 := NB227_229.out; have hcz18_0 : w16.cell? ⟨gb229, 0, none⟩ = some (.int .u8 0) := (blk_cell BK229.out 0).trans rfl; have hcz18_1 : w16.cell? ⟨gb229, 1, none⟩ = some (.int .i64 0) := (blk_cell BK229.out 1).trans rfl; have hcz18_2 : w16.cell? ⟨gb229, 2, none⟩ = some (.string (⟨#[]⟩ : ByteArray)) := (blk_cell BK229.out 2).trans rfl; have hcz18_3 : w16.cell? ⟨gb229, 3, none⟩ = some (.slice none 0 0) := (blk_cell BK229.out 3).trans rfl; have hfz18_0 := blk_frozen BK229.out 0; have hfz18_1 := blk_frozen BK229.out 1; have hfz18_2 := blk_frozen BK229.out 2; have hfz18_3 := blk_frozen BK229.out 3) | ((with_reducible refine gate_callee (f := 82) rfl ?_); refine goesL_ (some 21) rfl rfl Tryd.func82 (by kernel_rfl) rfl #[.agg #[.int .u8 ((rd_T24 l0_3 x13_1).f0), .int .i64 ((rd_T24 l0_3 x13_1).f1), .string ((rd_T24 l0_3 x13_1).f2), .slice A228_3 ((rd_T24 l0_3 x13_1).f3).length c228_3], .int .i64 (wrap64 (a1 - 1))] rfl (by (try simp only [List.map_toArray, List.map_cons, List.map_nil]); first | done | rfl | (simp only [List.length_drop, List.length_take]; rfl)) ?_; (with_reducible refine (ih k1 (by have := HK1.out; omega) ((rd_T24 l0_3 x13_1).f0) ((rd_T24 l0_3 x13_1).f1) ((rd_T24 l0_3 x13_1).f2) _ _ ((rd_T24 l0_3 x13_1).f3) (wrap64 (a1 - 1)) t230 _ ?side1 ?side2 A10.out).mono ?_); (case side1 => exact Kd.C_below HR228_3.out (by repeat (first | (with_reducible first | exact HB.out | apply below_alloc | apply pw_below_drewN | apply below_drew1 | refine below_set ?_ GE227.out | refine below_set ?_ GE229.out) | exact HB.out))); (case side2 => exact HC228_3.out); rintro e w19 ⟨rfl, hb⟩; refine ⟨_, rfl, ?_⟩; have n0_ := Aside0.mk (blk_below (g := gb227) (o := .cells #[.int .u8 a0_0, .int .i64 a0_1, .string a0_2, .slice (some ad228) l0_3.length c0_3] 24 (0, 0)) (by (with_reducible repeat (first | refine blk_drewN ?_ _ | refine blk_drew ?_ | refine blk_alloc ?_ _)); refine blk_far ?_ NB227_229.out _; (with_reducible repeat (first | refine blk_drewN ?_ _ | refine blk_drew ?_ | refine blk_alloc ?_ _)); refine blk_far ?_ NB227_229.out _; (with_reducible repeat (first | refine blk_drewN ?_ _ | refine blk_drew ?_ | refine blk_alloc ?_ _)); refine blk_far ?_ NB227_229.out _; (with_reducible repeat (first | refine blk_drewN ?_ _ | refine blk_drew ?_ | refine blk_alloc ?_ _)); refine blk_far ?_ NB227_229.out _; (with_reducible repeat (first | refine blk_drewN ?_ _ | refine blk_drew ?_ | refine blk_alloc ?_ _)); exact BK227.out) hb); have n1_ := Aside0.mk (blk_below (g := gb229) (o := .cells #[.int .u8 ((rd_T24 l0_3 x13_1).f0), .int .i64 ((rd_T24 l0_3 x13_1).f1), .string ((rd_T24 l0_3 x13_1).f2), .slice A228_3 ((rd_T24 l0_3 x13_1).f3).length c228_3] 24 (0, 0)) (by (with_reducible repeat (first | refine blk_drewN ?_ _ | refine blk_drew ?_ | refine blk_alloc ?_ _)); refine blk_put (cs := #[.int .u8 ((rd_T24 l0_3 x13_1).f0), .int .i64 ((rd_T24 l0_3 x13_1).f1), .string ((rd_T24 l0_3 x13_1).f2), .slice none 0 0]) ?_ 3 _ rfl; (with_reducible repeat (first | refine blk_drewN ?_ _ | refine blk_drew ?_ | refine blk_alloc ?_ _)); refine blk_put (cs := #[.int .u8 ((rd_T24 l0_3 x13_1).f0), .int .i64 ((rd_T24 l0_3 x13_1).f1), .string (⟨#[]⟩ : ByteArray), .slice none 0 0]) ?_ 2 _ rfl; (with_reducible repeat (first | refine blk_drewN ?_ _ | refine blk_drew ?_ | refine blk_alloc ?_ _)); refine blk_put (cs := #[.int .u8 ((rd_T24 l0_3 x13_1).f0), .int .i64 0, .string (⟨#[]⟩ : ByteArray), .slice none 0 0]) ?_ 1 _ rfl; (with_reducible repeat (first | refine blk_drewN ?_ _ | refine blk_drew ?_ | refine blk_alloc ?_ _)); refine blk_put (cs := #[.int .u8 0, .int .i64 0, .string (⟨#[]⟩ : ByteArray), .slice none 0 0]) ?_ 0 _ rfl; (with_reducible repeat (first | refine blk_drewN ?_ _ | refine blk_drew ?_ | refine blk_alloc ?_ _)); exact BK229.out) hb); have n2_ := Aside0.mk (below_step (by repeat (first | (with_reducible first | exact HB.out | apply below_alloc | apply pw_below_drewN | apply below_drew1 | refine below_set ?_ GE227.out | refine below_set ?_ GE229.out) | exact HB.out)) hb); clear BK227; clear BK229; clear HB; have BK227 := n0_; have BK229 := n1_; have HB := n2_; clear n0_ n1_ n2_; (try clear hb); (try clear hb2); (try clear hk); (try clear hi)))
                go_roundg k1
                case measure => have := HK1.out; omega
                case rel => exact ⟨(wrap64 (x5_1 + t230)), (wrap64 (x13_1 + 1)), (by first | rfl | (simp; done) | (simp [*]; done)), (by first | rfl | (simp; done) | (simp [*]; done)), H', ⟨by have := HK1.out; omega⟩, ⟨by (with_reducible repeat (first | refine blk_drewN ?_ _ | refine blk_drew ?_ | refine blk_alloc ?_ _)); exact BK227.out⟩, ⟨by repeat (first | (with_reducible first | exact HB.out | apply below_alloc | apply pw_below_drewN | apply below_drew1 | refine below_set ?_ GE227.out | refine below_set ?_ GE229.out) | exact HB.out)⟩⟩
            · rw [if_neg c9] at H
              exact absurd H (by simp)
          · rw [if_neg c8] at H
            exact absurd H (by simp)
        · rw [if_neg c7] at H
          have c7b0 : decide (x13_1 < (l0_3.length : Int)) = false := decide_eq_false c7
          clear c7
          obtain rfl := Option.some.inj H
          go_wp2
          go_ret
          exact ⟨by first | rfl | (simp [errW_none, errW_some] <;> rfl) | (simp [*, errW_none, errW_some] <;> rfl), by repeat (first | (with_reducible first | exact HB.out | apply below_alloc | apply pw_below_drewN | apply below_drew1 | refine below_set ?_ GE227.out) | exact HB.out)⟩

/-! ### ontimelaw12_Big: function 22 -/
def ontimelaw12_Big.f (k : Nat) (a0_0 : Int) (a0_1 : Int) (a0_2 : ByteArray) (l0_3 : List (S24)) : Option (Int) := (ontimelaw12_count.f k a0_0 a0_1 a0_2 l0_3 40).bind fun t232 => (if t232 > 500 then (some 1) else (some 0))
theorem ontimelaw12_Big.mono : ∀ a0 a1 a2 a3 k, LeO (ontimelaw12_Big.f k a0 a1 a2 a3) (ontimelaw12_Big.f (k + 1) a0 a1 a2 a3) := by
  intro a0 a1 a2 a3 k
  unfold ontimelaw12_Big.f
  repeat' first
      | (with_reducible exact ontimelaw12_count.mono _ _ _ _ _ _)
      | (with_reducible exact LeO.refl _)
      | (with_reducible exact LeO.none _)
      | (with_reducible refine LeO.ite ?_ ?_)
      | (with_reducible refine LeO.bind ?_ (fun _ => ?_))
      | exact ontimelaw12_count.mono _ _ _ _ _ _
      | exact LeO.none _
      | refine LeO.ite ?_ ?_
      | refine LeO.bind ?_ (fun _ => ?_)
set_option maxHeartbeats 8000000 in
set_option maxRecDepth 100000 in
theorem ontimelaw12_Big.calls (k : Nat) (a0_0 : Int) (a0_1 : Int) (a0_2 : ByteArray) (A0_3 : Option Addr) (c0_3 : Nat) (l0_3 : List (S24)) (r : Int) (w : World) (hr0_3 : Kd.C k24 w A0_3 l0_3.length l0_3) (hc0_3 : l0_3.length ≤ c0_3) (h : ontimelaw12_Big.f k a0_0 a0_1 a0_2 l0_3 = some r) :
    Calls Tryd.prog 22 #[.agg #[.int .u8 a0_0, .int .i64 a0_1, .string a0_2, .slice A0_3 l0_3.length c0_3]] w fun e w' => e = .returned (.int .i64 r) ∧ Below w.heap.size w w' := by
  have hu24 := Tryd.underlying24
  have HR0_3 := Aside0.mk hr0_3
  have HC0_3 := Aside0.mk hc0_3
  clear hr0_3 hc0_3
  have HB := Aside0.mk (Below.refl w.heap.size w)
  have H : ((ontimelaw12_count.f k a0_0 a0_1 a0_2 l0_3 40).bind fun t232 => (if t232 > 500 then (some 1) else (some 0))) = some r := h
  clear h
  replace H := Option.bind_eq_some_iff.mp H
  obtain ⟨t232, A20, H⟩ := H
  replace H : (if t232 > 500 then (some 1) else (some 0)) = some r := H
  have A2 := Aside0.mk A20
  clear A20
  by_cases c3 : t232 > 500
  · rw [if_pos c3] at H
    have c3b0 : decide (500 < t232) = true := decide_eq_true c3
    clear c3
    obtain rfl := Option.some.inj H
    go_enter Tryd.func22, Tryd.ntmps22
    go_wp2_with (first | ((with_reducible refine gate_dst (N := 1) rfl ?_); refine box_event ?hg (N := 1) ?hd (cs := #[.int .u8 a0_0, .int .i64 a0_1, .string a0_2, .slice A0_3 l0_3.length c0_3]) (t := 24) ?hr ?_; (case hd => rfl); (case hg => rfl); (case hr => first | (go_simp; done) | (go_simp; rfl)); intro gb231 hg w4 hbox hb; have n0_ := Aside0.mk (below_step (by repeat (first | (with_reducible first | exact HB.out | apply below_alloc | apply pw_below_drewN | apply below_drew1) | exact HB.out)) hb); have n1_ := Aside0.mk (hbox); have n2_ := Aside0.mk ((by rw [hg]; exact (below_size (by repeat (first | (with_reducible first | exact HB.out | apply below_alloc | apply pw_below_drewN | apply below_drew1) | exact HB.out))) : w.heap.size ≤ gb231)); have n3_ := Aside0.mk ((by rw [hg]; exact (below_size (by repeat (first | (with_reducible first | exact HB.out | apply below_alloc | apply pw_below_drewN | apply below_drew1) | exact HB.out))) : w.heap.size ≤ gb231)); clear HB; have HB := n0_; have BK231 := n1_; have GW231 := n2_; have GE231 := n3_; clear n0_ n1_ n2_ n3_; clear hb hbox hg; have hcz5_0 : w4.cell? ⟨gb231, 0, none⟩ = some (.int .u8 a0_0) := (blk_cell BK231.out 0).trans rfl; have hcz5_1 : w4.cell? ⟨gb231, 1, none⟩ = some (.int .i64 a0_1) := (blk_cell BK231.out 1).trans rfl; have hcz5_2 : w4.cell? ⟨gb231, 2, none⟩ = some (.string a0_2) := (blk_cell BK231.out 2).trans rfl; have hcz5_3 : w4.cell? ⟨gb231, 3, none⟩ = some (.slice A0_3 l0_3.length c0_3) := (blk_cell BK231.out 3).trans rfl; have hfz5_0 := blk_frozen BK231.out 0; have hfz5_1 := blk_frozen BK231.out 1; have hfz5_2 := blk_frozen BK231.out 2; have hfz5_3 := blk_frozen BK231.out 3) | ((with_reducible refine gate_callee (f := 82) rfl ?_); refine goesL_ (some 4) rfl rfl Tryd.func82 (by kernel_rfl) rfl #[.agg #[.int .u8 a0_0, .int .i64 a0_1, .string a0_2, .slice A0_3 l0_3.length c0_3], .int .i64 40] rfl (by (try simp only [List.map_toArray, List.map_cons, List.map_nil]); first | done | rfl | (simp only [List.length_drop, List.length_take]; rfl)) ?_; (with_reducible refine (ontimelaw12_count.calls k a0_0 a0_1 a0_2 _ _ l0_3 40 t232 _ ?side1 ?side2 A2.out).mono ?_); (case side1 => repeat (first | exact (Kd.C_below HR0_3.out HB.out) | (with_reducible refine Kd.C_alloc ?_ _) | (with_reducible refine Kd.C_drewN ?_ _) | (with_reducible refine Kd.C_drew ?_))); (case side2 => exact HC0_3.out); rintro e w6 ⟨rfl, hb⟩; refine ⟨_, rfl, ?_⟩; have n0_ := Aside0.mk (blk_below (g := gb231) (o := .cells #[.int .u8 a0_0, .int .i64 a0_1, .string a0_2, .slice A0_3 l0_3.length c0_3] 24 (0, 0)) (by (with_reducible repeat (first | refine blk_drewN ?_ _ | refine blk_drew ?_ | refine blk_alloc ?_ _)); exact BK231.out) hb); have n1_ := Aside0.mk (below_step (by repeat (first | (with_reducible first | exact HB.out | apply below_alloc | apply pw_below_drewN | apply below_drew1 | refine below_set ?_ GE231.out) | exact HB.out)) hb); clear BK231; clear HB; have BK231 := n0_; have HB := n1_; clear n0_ n1_; (try clear hb); (try clear hb2); (try clear hk); (try clear hi)))
    go_ret
    exact ⟨by first | rfl | (simp [errW_none, errW_some] <;> rfl) | (simp [*, errW_none, errW_some] <;> rfl), by repeat (first | (with_reducible first | exact HB.out | apply below_alloc | apply pw_below_drewN | apply below_drew1 | refine below_set ?_ GE231.out) | exact HB.out)⟩
  · rw [if_neg c3] at H
    have c3b0 : decide (500 < t232) = false := decide_eq_false c3
    clear c3
    obtain rfl := Option.some.inj H
    go_enter Tryd.func22, Tryd.ntmps22
    go_wp2_with (first | ((with_reducible refine gate_dst (N := 1) rfl ?_); refine box_event ?hg (N := 1) ?hd (cs := #[.int .u8 a0_0, .int .i64 a0_1, .string a0_2, .slice A0_3 l0_3.length c0_3]) (t := 24) ?hr ?_; (case hd => rfl); (case hg => rfl); (case hr => first | (go_simp; done) | (go_simp; rfl)); intro gb231 hg w7 hbox hb; have n0_ := Aside0.mk (below_step (by repeat (first | (with_reducible first | exact HB.out | apply below_alloc | apply pw_below_drewN | apply below_drew1) | exact HB.out)) hb); have n1_ := Aside0.mk (hbox); have n2_ := Aside0.mk ((by rw [hg]; exact (below_size (by repeat (first | (with_reducible first | exact HB.out | apply below_alloc | apply pw_below_drewN | apply below_drew1) | exact HB.out))) : w.heap.size ≤ gb231)); have n3_ := Aside0.mk ((by rw [hg]; exact (below_size (by repeat (first | (with_reducible first | exact HB.out | apply below_alloc | apply pw_below_drewN | apply below_drew1) | exact HB.out))) : w.heap.size ≤ gb231)); clear HB; have HB := n0_; have BK231 := n1_; have GW231 := n2_; have GE231 := n3_; clear n0_ n1_ n2_ n3_; clear hb hbox hg; have hcz8_0 : w7.cell? ⟨gb231, 0, none⟩ = some (.int .u8 a0_0) := (blk_cell BK231.out 0).trans rfl; have hcz8_1 : w7.cell? ⟨gb231, 1, none⟩ = some (.int .i64 a0_1) := (blk_cell BK231.out 1).trans rfl; have hcz8_2 : w7.cell? ⟨gb231, 2, none⟩ = some (.string a0_2) := (blk_cell BK231.out 2).trans rfl; have hcz8_3 : w7.cell? ⟨gb231, 3, none⟩ = some (.slice A0_3 l0_3.length c0_3) := (blk_cell BK231.out 3).trans rfl; have hfz8_0 := blk_frozen BK231.out 0; have hfz8_1 := blk_frozen BK231.out 1; have hfz8_2 := blk_frozen BK231.out 2; have hfz8_3 := blk_frozen BK231.out 3) | ((with_reducible refine gate_callee (f := 82) rfl ?_); refine goesL_ (some 4) rfl rfl Tryd.func82 (by kernel_rfl) rfl #[.agg #[.int .u8 a0_0, .int .i64 a0_1, .string a0_2, .slice A0_3 l0_3.length c0_3], .int .i64 40] rfl (by (try simp only [List.map_toArray, List.map_cons, List.map_nil]); first | done | rfl | (simp only [List.length_drop, List.length_take]; rfl)) ?_; (with_reducible refine (ontimelaw12_count.calls k a0_0 a0_1 a0_2 _ _ l0_3 40 t232 _ ?side1 ?side2 A2.out).mono ?_); (case side1 => repeat (first | exact (Kd.C_below HR0_3.out HB.out) | (with_reducible refine Kd.C_alloc ?_ _) | (with_reducible refine Kd.C_drewN ?_ _) | (with_reducible refine Kd.C_drew ?_))); (case side2 => exact HC0_3.out); rintro e w9 ⟨rfl, hb⟩; refine ⟨_, rfl, ?_⟩; have n0_ := Aside0.mk (blk_below (g := gb231) (o := .cells #[.int .u8 a0_0, .int .i64 a0_1, .string a0_2, .slice A0_3 l0_3.length c0_3] 24 (0, 0)) (by (with_reducible repeat (first | refine blk_drewN ?_ _ | refine blk_drew ?_ | refine blk_alloc ?_ _)); exact BK231.out) hb); have n1_ := Aside0.mk (below_step (by repeat (first | (with_reducible first | exact HB.out | apply below_alloc | apply pw_below_drewN | apply below_drew1 | refine below_set ?_ GE231.out) | exact HB.out)) hb); clear BK231; clear HB; have BK231 := n0_; have HB := n1_; clear n0_ n1_; (try clear hb); (try clear hb2); (try clear hk); (try clear hi)))
    go_ret
    exact ⟨by first | rfl | (simp [errW_none, errW_some] <;> rfl) | (simp [*, errW_none, errW_some] <;> rfl), by repeat (first | (with_reducible first | exact HB.out | apply below_alloc | apply pw_below_drewN | apply below_drew1 | refine below_set ?_ GE231.out) | exact HB.out)⟩

/-! ### ontimelaw12_Great: function 45 -/
mutual
def ontimelaw12_Great.j0 : Nat → Bool → List (S71) → List (S65) → Option (Int)
  | 0, _, _, _ => none
  | k + 1, x14, x234000, x234001 => if x14 = true then (some 1) else (ontimelaw12_Great.l0 k x234001 (x234001.length : Int) 0)
def ontimelaw12_Great.l0 : Nat → List (S65) → Int → Int → Option (Int)
  | 0, _, _, _ => none
  | k + 1, x16, x17, x18 => if x18 < x17 then (if 0 ≤ x18 then (if x18 < (x16.length : Int) then (if (((rd_T65 x16 x18).f2).length : Int) > 20 then (some 1) else (if (((rd_T65 x16 x18).f3).length : Int) > 10 then (some 1) else ((ontimelaw12_Big.f k ((rd_T65 x16 x18).f4.f0) ((rd_T65 x16 x18).f4.f1) ((rd_T65 x16 x18).f4.f2) ((rd_T65 x16 x18).f4.f3)).bind fun t236 => (if t236 = 1 then (some 1) else (ontimelaw12_Great.l0 k x16 x17 (wrap64 (x18 + 1))))))) else (none)) else (none)) else (some 0)
end
def ontimelaw12_Great.f (k : Nat) (l0_0 : List (S71)) (l0_1 : List (S65)) : Option (Int) := if (l0_0.length : Int) > 10 then (ontimelaw12_Great.j0 k true l0_0 l0_1) else (ontimelaw12_Great.j0 k (decide ((l0_1.length : Int) > 10)) l0_0 l0_1)
theorem ontimelaw12_Great.mono_l : ∀ k, (∀ y0 y1 y2, LeO (ontimelaw12_Great.j0 k y0 y1 y2) (ontimelaw12_Great.j0 (k + 1) y0 y1 y2)) ∧ (∀ y0 y1 y2, LeO (ontimelaw12_Great.l0 k y0 y1 y2) (ontimelaw12_Great.l0 (k + 1) y0 y1 y2))
  | 0 => ⟨fun _ _ _ r h => by simp [ontimelaw12_Great.j0] at h, fun _ _ _ r h => by simp [ontimelaw12_Great.l0] at h⟩
  | k + 1 => by
    obtain ⟨ih0, ih1⟩ := ontimelaw12_Great.mono_l k
    refine ⟨?_, ?_⟩
    · intro y0 y1 y2
      unfold ontimelaw12_Great.j0
      repeat' first
      | (with_reducible exact ih0 _ _ _)
      | (with_reducible exact ih1 _ _ _)
      | (with_reducible exact ontimelaw12_Big.mono _ _ _ _ _)
      | (with_reducible exact LeO.refl _)
      | (with_reducible exact LeO.none _)
      | (with_reducible refine LeO.ite ?_ ?_)
      | (with_reducible refine LeO.bind ?_ (fun _ => ?_))
      | exact ih0 _ _ _
      | exact ih1 _ _ _
      | exact ontimelaw12_Big.mono _ _ _ _ _
      | exact LeO.none _
      | refine LeO.ite ?_ ?_
      | refine LeO.bind ?_ (fun _ => ?_)
    · intro y0 y1 y2
      unfold ontimelaw12_Great.l0
      repeat' first
      | (with_reducible exact ih0 _ _ _)
      | (with_reducible exact ih1 _ _ _)
      | (with_reducible exact ontimelaw12_Big.mono _ _ _ _ _)
      | (with_reducible exact LeO.refl _)
      | (with_reducible exact LeO.none _)
      | (with_reducible refine LeO.ite ?_ ?_)
      | (with_reducible refine LeO.bind ?_ (fun _ => ?_))
      | exact ih0 _ _ _
      | exact ih1 _ _ _
      | exact ontimelaw12_Big.mono _ _ _ _ _
      | exact LeO.none _
      | refine LeO.ite ?_ ?_
      | refine LeO.bind ?_ (fun _ => ?_)
theorem ontimelaw12_Great.mono : ∀ a0 a1 k, LeO (ontimelaw12_Great.f k a0 a1) (ontimelaw12_Great.f (k + 1) a0 a1) := by
  intro a0 a1 k
  obtain ⟨ih0, ih1⟩ := ontimelaw12_Great.mono_l k
  unfold ontimelaw12_Great.f
  repeat' first
      | (with_reducible exact ih0 _ _ _)
      | (with_reducible exact ih1 _ _ _)
      | (with_reducible exact ontimelaw12_Big.mono _ _ _ _ _)
      | (with_reducible exact LeO.refl _)
      | (with_reducible exact LeO.none _)
      | (with_reducible refine LeO.ite ?_ ?_)
      | (with_reducible refine LeO.bind ?_ (fun _ => ?_))
      | exact ih0 _ _ _
      | exact ih1 _ _ _
      | exact ontimelaw12_Big.mono _ _ _ _ _
      | exact LeO.none _
      | refine LeO.ite ?_ ?_
      | refine LeO.bind ?_ (fun _ => ?_)
set_option maxHeartbeats 8000000 in
set_option maxRecDepth 100000 in
theorem ontimelaw12_Great.calls (k : Nat) (A0_0 : Option Addr) (c0_0 : Nat) (l0_0 : List (S71)) (A0_1 : Option Addr) (c0_1 : Nat) (l0_1 : List (S65)) (r : Int) (w : World) (hr0_0 : Kd.C k71 w A0_0 l0_0.length l0_0) (hc0_0 : l0_0.length ≤ c0_0) (hr0_1 : Kd.C k65 w A0_1 l0_1.length l0_1) (hc0_1 : l0_1.length ≤ c0_1) (h : ontimelaw12_Great.f k l0_0 l0_1 = some r) :
    Calls Tryd.prog 45 #[.agg #[.slice A0_0 l0_0.length c0_0, .slice A0_1 l0_1.length c0_1]] w fun e w' => e = .returned (.int .i64 r) ∧ Below w.heap.size w w' := by
  have hu50 := Tryd.underlying50
  have hu65 := Tryd.underlying65
  have hu24 := Tryd.underlying24
  have HR0_0 := Aside0.mk hr0_0
  have HC0_0 := Aside0.mk hc0_0
  clear hr0_0 hc0_0
  have HR0_1 := Aside0.mk hr0_1
  have HC0_1 := Aside0.mk hc0_1
  clear hr0_1 hc0_1
  have HB := Aside0.mk (Below.refl w.heap.size w)
  have H : (if (l0_0.length : Int) > 10 then (ontimelaw12_Great.j0 k true l0_0 l0_1) else (ontimelaw12_Great.j0 k (decide ((l0_1.length : Int) > 10)) l0_0 l0_1)) = some r := h
  clear h
  have HC2 := Aside0.mk H
  clear H
  go_enter Tryd.func45, Tryd.ntmps45
  go_upto_region 1 with (first | ((with_reducible refine gate_dst (N := 1) rfl ?_); (try (refine gate_guard (by rfl) ?_; dsimp only)); refine box_event ?hg (N := 1) ?hd (cs := #[.slice A0_0 l0_0.length c0_0, .slice A0_1 l0_1.length c0_1]) (t := 50) ?hr ?_; (case hd => rfl); (case hg => rfl); (case hr => first | (go_simp; done) | (go_simp; rfl)); intro gb233 hg w3 hbox hb; have n0_ := Aside0.mk (below_step (by repeat (first | (with_reducible first | exact HB.out | apply below_alloc | apply pw_below_drewN | apply below_drew1) | exact HB.out)) hb); have n1_ := Aside0.mk (hbox); have n2_ := Aside0.mk ((by rw [hg]; exact (below_size (by repeat (first | (with_reducible first | exact HB.out | apply below_alloc | apply pw_below_drewN | apply below_drew1) | exact HB.out))) : w.heap.size ≤ gb233)); have n3_ := Aside0.mk ((by rw [hg]; exact (below_size (by repeat (first | (with_reducible first | exact HB.out | apply below_alloc | apply pw_below_drewN | apply below_drew1) | exact HB.out))) : w.heap.size ≤ gb233)); clear HB; have HB := n0_; have BK233 := n1_; have GW233 := n2_; have GE233 := n3_; clear n0_ n1_ n2_ n3_; clear hb hbox hg))
  (try simp only [Act.put, List.setIfInBounds_toArray, List.set_cons_zero, List.set_cons_succ])
  go_cut [14] (fun v14 wc => ∃ (kq : Nat) (x14_1 : Bool), v14 = .bool x14_1 ∧ Aside0 (ontimelaw12_Great.j0 kq x14_1 l0_0 l0_1 = some r) ∧ Aside0 (kq ≤ k) ∧ Aside0 (wc.heap[gb233]? = some (.cells #[(.slice A0_0 l0_0.length c0_0), (.slice A0_1 l0_1.length c0_1)] 50 (0, 0))) ∧ Aside0 (Below w.heap.size w wc))
  case first =>
    have H := HC2.out
    clear HC2
    by_cases c4 : (l0_0.length : Int) > 10
    · rw [if_pos c4] at H
      have c4b0 : decide (10 < (l0_0.length : Int)) = true := decide_eq_true c4
      have c4b1 : decide (10 < l0_0.length) = true := decide_eq_true (by omega)
      clear c4
      (first | rw [c4b0] | (simp only [i64_w, i32_w]; rw [c4b0]) | skip)
      have H' := Aside0.mk H
      clear H
      have hcz5_0 : w3.cell? ⟨gb233, 0, none⟩ = some (.slice A0_0 l0_0.length c0_0) := (blk_cell BK233.out 0).trans rfl
      have hcz5_1 : w3.cell? ⟨gb233, 1, none⟩ = some (.slice A0_1 l0_1.length c0_1) := (blk_cell BK233.out 1).trans rfl
      have hfz5_0 := blk_frozen BK233.out 0
      have hfz5_1 := blk_frozen BK233.out 1
      go_wp2
      go_meet
      case rel => exact ⟨_, (true), (by first | rfl | (simp; done) | (simp [*]; done)), H', ⟨by first | omega | exact Nat.le_refl _⟩, ⟨by (with_reducible repeat (first | refine blk_drewN ?_ _ | refine blk_drew ?_ | refine blk_alloc ?_ _)); exact BK233.out⟩, ⟨by repeat (first | (with_reducible first | exact HB.out | apply below_alloc | apply pw_below_drewN | apply below_drew1 | refine below_set ?_ GE233.out) | exact HB.out)⟩⟩
    · rw [if_neg c4] at H
      have c4b0 : decide (10 < (l0_0.length : Int)) = false := decide_eq_false c4
      have c4b1 : decide (10 < l0_0.length) = false := decide_eq_false (by omega)
      clear c4
      (first | rw [c4b0] | (simp only [i64_w, i32_w]; rw [c4b0]) | skip)
      have H' := Aside0.mk H
      clear H
      have hcz6_0 : w3.cell? ⟨gb233, 0, none⟩ = some (.slice A0_0 l0_0.length c0_0) := (blk_cell BK233.out 0).trans rfl
      have hcz6_1 : w3.cell? ⟨gb233, 1, none⟩ = some (.slice A0_1 l0_1.length c0_1) := (blk_cell BK233.out 1).trans rfl
      have hfz6_0 := blk_frozen BK233.out 0
      have hfz6_1 := blk_frozen BK233.out 1
      go_wp2
      go_meet
      case rel => exact ⟨_, (decide ((l0_1.length : Int) > 10)), (by first | rfl | (simp; done) | (simp [*]; done)), H', ⟨by first | omega | exact Nat.le_refl _⟩, ⟨by (with_reducible repeat (first | refine blk_drewN ?_ _ | refine blk_drew ?_ | refine blk_alloc ?_ _)); exact BK233.out⟩, ⟨by repeat (first | (with_reducible first | exact HB.out | apply below_alloc | apply pw_below_drewN | apply below_drew1 | refine below_set ?_ GE233.out) | exact HB.out)⟩⟩
  case rest =>
    clear HC2
    try clear p2
    try clear c4
    try clear c4b0
    try clear c4b1
    try clear hcz5_0
    try clear hcz5_1
    try clear hcz6_0
    try clear hcz6_1
    try clear hfz5_0
    try clear hfz5_1
    try clear hfz6_0
    try clear hfz6_1
    obtain ⟨kq, x14_1, rfl, HA, HJ1, BK233, HB⟩ := hcut
    cases kq with
    | zero => exact absurd HA.out (by simp [ontimelaw12_Great.j0])
    | succ kj1 =>
      have H := HA.out
      clear HA
      simp only [ontimelaw12_Great.j0] at H
      by_cases c7 : x14_1 = true
      · subst c7
        have H1 : (some 1) = some r := by rw [if_pos rfl] at H; exact H
        clear H
        have H := H1
        clear H1
        obtain rfl := Option.some.inj H
        go_wp2
        go_ret
        exact ⟨by first | rfl | (simp [errW_none, errW_some] <;> rfl) | (simp [*, errW_none, errW_some] <;> rfl), by repeat (first | (with_reducible first | exact HB.out | apply below_alloc | apply pw_below_drewN | apply below_drew1 | refine below_set ?_ GE233.out) | exact HB.out)⟩
      · replace c7 := Bool.eq_false_iff.mpr c7
        subst c7
        have H1 : (ontimelaw12_Great.l0 kj1 l0_1 (l0_1.length : Int) 0) = some r := by rw [if_neg (show ¬ (false = true) by decide)] at H; exact H
        clear H
        have H := H1
        clear H1
        have H' := Aside0.mk H
        clear H
        have hcz8_0 : wc.cell? ⟨gb233, 0, none⟩ = some (.slice A0_0 l0_0.length c0_0) := (blk_cell BK233.out 0).trans rfl
        have hcz8_1 : wc.cell? ⟨gb233, 1, none⟩ = some (.slice A0_1 l0_1.length c0_1) := (blk_cell BK233.out 1).trans rfl
        have hfz8_0 := blk_frozen BK233.out 0
        have hfz8_1 := blk_frozen BK233.out 1
        go_wp2
        go_loopg [18] kj1 (fun kq v18 w' => ∃ (x18_2 : Int), v18 = .int .i64 x18_2 ∧ Aside0 (ontimelaw12_Great.l0 kq l0_1 (l0_1.length : Int) x18_2 = some r) ∧ Aside0 (kq ≤ kj1) ∧ Aside0 (w'.heap[gb233]? = some (.cells #[(.slice A0_0 l0_0.length c0_0), (.slice A0_1 l0_1.length c0_1)] 50 (0, 0))) ∧ Aside0 (Below w.heap.size w w'))
        case atStart => exact ⟨(0), (by first | rfl | (simp; done) | (simp [*]; done)), H', ⟨Nat.le_refl _⟩, ⟨by (with_reducible repeat (first | refine blk_drewN ?_ _ | refine blk_drew ?_ | refine blk_alloc ?_ _)); exact BK233.out⟩, ⟨by repeat (first | (with_reducible first | exact HB.out | apply below_alloc | apply pw_below_drewN | apply below_drew1 | refine below_set ?_ GE233.out) | exact HB.out)⟩⟩
        case round =>
          clear H'
          try clear p2
          try clear c4
          try clear c4b0
          try clear c4b1
          try clear c7
          try clear hcz5_0
          try clear hcz5_1
          try clear hcz6_0
          try clear hcz6_1
          try clear hcz8_0
          try clear hcz8_1
          try clear hfz5_0
          try clear hfz5_1
          try clear hfz6_0
          try clear hfz6_1
          try clear hfz8_0
          try clear hfz8_1
          try clear p2
          obtain ⟨x18_2, rfl, HA, HK2, BK233, HB⟩ := hrel
          cases gk with
          | zero => exact absurd HA.out (by simp [ontimelaw12_Great.l0])
          | succ k2 =>
            have H := HA.out
            clear HA
            simp only [ontimelaw12_Great.l0] at H
            by_cases c9 : x18_2 < (l0_1.length : Int)
            · rw [if_pos c9] at H
              have c9b0 : decide (x18_2 < (l0_1.length : Int)) = true := decide_eq_true c9
              clear c9
              by_cases c10 : 0 ≤ x18_2
              · rw [if_pos c10] at H
                have c10b0 : decide (0 ≤ x18_2) = true := decide_eq_true c10
                clear c10
                by_cases c11 : x18_2 < (l0_1.length : Int)
                · rw [if_pos c11] at H
                  have c11b0 : decide (x18_2 < (l0_1.length : Int)) = true := decide_eq_true c11
                  clear c11
                  by_cases c12 : (((rd_T65 l0_1 x18_2).f2).length : Int) > 20
                  · rw [if_pos c12] at H
                    have c12b0 : decide (20 < (((rd_T65 l0_1 x18_2).f2).length : Int)) = true := decide_eq_true c12
                    have c12b1 : decide (20 < ((rd_T65 l0_1 x18_2).f2).length) = true := decide_eq_true (by omega)
                    clear c12
                    obtain rfl := Option.some.inj H
                    have p234 : 0 ≤ (x18_2 : Int) := of_decide_eq_true (by first | (with_reducible assumption) | assumption)
                    have q234 : x18_2 < (l0_1.length : Int) := of_decide_eq_true (by first | (with_reducible assumption) | assumption)
                    obtain ⟨ad234, A234_2, c234_2, A234_3, c234_3, A234_7, c234_7, e234, hx234_0, hx234_1, hx234_2, hx234_3, hx234_4, hx234_5, hx234_6, hx234_7, hl234_2, hi234_2, hl234_3, hi234_3, hl234_7, hi234_7⟩ := at_T65 HR0_1.out x18_2 p234 q234
                    cases e234
                    replace hx234_0 := (HB.out.cell (World.block_lt_of_cell? w _ hx234_0)).trans hx234_0
                    replace hx234_1 := (HB.out.cell (World.block_lt_of_cell? w _ hx234_1)).trans hx234_1
                    replace hx234_2 := (HB.out.cell (World.block_lt_of_cell? w _ hx234_2)).trans hx234_2
                    replace hx234_3 := (HB.out.cell (World.block_lt_of_cell? w _ hx234_3)).trans hx234_3
                    replace hx234_4 := (HB.out.cell (World.block_lt_of_cell? w _ hx234_4)).trans hx234_4
                    replace hx234_5 := (HB.out.cell (World.block_lt_of_cell? w _ hx234_5)).trans hx234_5
                    replace hx234_6 := (HB.out.cell (World.block_lt_of_cell? w _ hx234_6)).trans hx234_6
                    replace hx234_7 := (HB.out.cell (World.block_lt_of_cell? w _ hx234_7)).trans hx234_7
                    have HR234_2 := Aside0.mk hi234_2
                    have HC234_2 := Aside0.mk hl234_2
                    clear hi234_2 hl234_2
                    have HR234_3 := Aside0.mk hi234_3
                    have HC234_3 := Aside0.mk hl234_3
                    clear hi234_3 hl234_3
                    have HR234_7 := Aside0.mk hi234_7
                    have HC234_7 := Aside0.mk hl234_7
                    clear hi234_7 hl234_7
                    replace p234 := eq_true p234
                    replace q234 := eq_true q234
                    go_wp2_with (first | ((with_reducible refine gate_dst (N := 4) rfl ?_); (try (refine gate_guard (by rfl) ?_; dsimp only)); refine box_event ?hg (N := 4) ?hd (cs := #[.string (⟨#[]⟩ : ByteArray), .int .i64 0, .slice none 0 0, .slice none 0 0, .int .u8 0, .int .i64 0, .string (⟨#[]⟩ : ByteArray), .slice none 0 0]) (t := 65) ?hr ?_; (case hd => rfl); (case hg => rfl); (case hr => first | (go_simp; done) | (go_simp; rfl)); intro gb235 hg w13 hbox hb; have n0_ := Aside0.mk (blk_below (g := gb233) (o := .cells #[.slice A0_0 l0_0.length c0_0, .slice (some ad234) l0_1.length c0_1] 50 (0, 0)) (by (with_reducible repeat (first | refine blk_drewN ?_ _ | refine blk_drew ?_ | refine blk_alloc ?_ _)); exact BK233.out) hb); have n1_ := Aside0.mk (below_step (by repeat (first | (with_reducible first | exact HB.out | apply below_alloc | apply pw_below_drewN | apply below_drew1 | refine below_set ?_ GE233.out) | exact HB.out)) hb); have n2_ := Aside0.mk (hbox); have n3_ := Aside0.mk ((by rw [hg]; exact (below_size (by repeat (first | (with_reducible first | exact HB.out | apply below_alloc | apply pw_below_drewN | apply below_drew1 | refine below_set ?_ GE233.out) | exact HB.out))) : w.heap.size ≤ gb235)); have n4_ := Aside0.mk ((by rw [hg]; exact (below_size (by repeat (first | (with_reducible first | exact HB.out | apply below_alloc | apply pw_below_drewN | apply below_drew1 | refine below_set ?_ GE233.out) | exact HB.out))) : w.heap.size ≤ gb235)); have n5_ := Aside0.mk ((by rw [hg]; exact Nat.ne_of_lt (blk_lt (g := gb233) (o := .cells #[.slice A0_0 l0_0.length c0_0, .slice (some ad234) l0_1.length c0_1] 50 (0, 0)) (by (with_reducible repeat (first | refine blk_drewN ?_ _ | refine blk_drew ?_ | refine blk_alloc ?_ _)); exact BK233.out)) : gb233 ≠ gb235)); have n6_ := Aside0.mk ((by rw [hg]; exact Nat.ne_of_gt (blk_lt (g := gb233) (o := .cells #[.slice A0_0 l0_0.length c0_0, .slice (some ad234) l0_1.length c0_1] 50 (0, 0)) (by (with_reducible repeat (first | refine blk_drewN ?_ _ | refine blk_drew ?_ | refine blk_alloc ?_ _)); exact BK233.out)) : gb235 ≠ gb233)); clear BK233; clear HB; have BK233 := n0_; have HB := n1_; have BK235 := n2_; have GW235 := n3_; have GE235 := n4_; have NB233_235 := n5_; have NB235_233 := n6_; clear n0_ n1_ n2_ n3_ n4_ n5_ n6_; clear hb hbox hg; have hnb14 := NB235_233.out; have hnc14 := NB233_235.out; have hcz15_0 : w13.cell? ⟨gb235, 0, none⟩ = some (.string (⟨#[]⟩ : ByteArray)) := (blk_cell BK235.out 0).trans rfl; have hcz15_1 : w13.cell? ⟨gb235, 1, none⟩ = some (.int .i64 0) := (blk_cell BK235.out 1).trans rfl; have hcz15_2 : w13.cell? ⟨gb235, 2, none⟩ = some (.slice none 0 0) := (blk_cell BK235.out 2).trans rfl; have hcz15_3 : w13.cell? ⟨gb235, 3, none⟩ = some (.slice none 0 0) := (blk_cell BK235.out 3).trans rfl; have hcz15_4 : w13.cell? ⟨gb235, 4, none⟩ = some (.int .u8 0) := (blk_cell BK235.out 4).trans rfl; have hcz15_5 : w13.cell? ⟨gb235, 5, none⟩ = some (.int .i64 0) := (blk_cell BK235.out 5).trans rfl; have hcz15_6 : w13.cell? ⟨gb235, 6, none⟩ = some (.string (⟨#[]⟩ : ByteArray)) := (blk_cell BK235.out 6).trans rfl; have hcz15_7 : w13.cell? ⟨gb235, 7, none⟩ = some (.slice none 0 0) := (blk_cell BK235.out 7).trans rfl; have hfz15_0 := blk_frozen BK235.out 0; have hfz15_1 := blk_frozen BK235.out 1; have hfz15_2 := blk_frozen BK235.out 2; have hfz15_3 := blk_frozen BK235.out 3; have hfz15_4 := blk_frozen BK235.out 4; have hfz15_5 := blk_frozen BK235.out 5; have hfz15_6 := blk_frozen BK235.out 6; have hfz15_7 := blk_frozen BK235.out 7))
                    go_ret
                    exact ⟨by first | rfl | (simp [errW_none, errW_some] <;> rfl) | (simp [*, errW_none, errW_some] <;> rfl), by repeat (first | (with_reducible first | exact HB.out | apply below_alloc | apply pw_below_drewN | apply below_drew1 | refine below_set ?_ GE233.out | refine below_set ?_ GE235.out) | exact HB.out)⟩
                  · rw [if_neg c12] at H
                    have c12b0 : decide (20 < (((rd_T65 l0_1 x18_2).f2).length : Int)) = false := decide_eq_false c12
                    have c12b1 : decide (20 < ((rd_T65 l0_1 x18_2).f2).length) = false := decide_eq_false (by omega)
                    clear c12
                    by_cases c16 : (((rd_T65 l0_1 x18_2).f3).length : Int) > 10
                    · rw [if_pos c16] at H
                      have c16b0 : decide (10 < (((rd_T65 l0_1 x18_2).f3).length : Int)) = true := decide_eq_true c16
                      have c16b1 : decide (10 < ((rd_T65 l0_1 x18_2).f3).length) = true := decide_eq_true (by omega)
                      clear c16
                      obtain rfl := Option.some.inj H
                      have p234 : 0 ≤ (x18_2 : Int) := of_decide_eq_true (by first | (with_reducible assumption) | assumption)
                      have q234 : x18_2 < (l0_1.length : Int) := of_decide_eq_true (by first | (with_reducible assumption) | assumption)
                      obtain ⟨ad234, A234_2, c234_2, A234_3, c234_3, A234_7, c234_7, e234, hx234_0, hx234_1, hx234_2, hx234_3, hx234_4, hx234_5, hx234_6, hx234_7, hl234_2, hi234_2, hl234_3, hi234_3, hl234_7, hi234_7⟩ := at_T65 HR0_1.out x18_2 p234 q234
                      cases e234
                      replace hx234_0 := (HB.out.cell (World.block_lt_of_cell? w _ hx234_0)).trans hx234_0
                      replace hx234_1 := (HB.out.cell (World.block_lt_of_cell? w _ hx234_1)).trans hx234_1
                      replace hx234_2 := (HB.out.cell (World.block_lt_of_cell? w _ hx234_2)).trans hx234_2
                      replace hx234_3 := (HB.out.cell (World.block_lt_of_cell? w _ hx234_3)).trans hx234_3
                      replace hx234_4 := (HB.out.cell (World.block_lt_of_cell? w _ hx234_4)).trans hx234_4
                      replace hx234_5 := (HB.out.cell (World.block_lt_of_cell? w _ hx234_5)).trans hx234_5
                      replace hx234_6 := (HB.out.cell (World.block_lt_of_cell? w _ hx234_6)).trans hx234_6
                      replace hx234_7 := (HB.out.cell (World.block_lt_of_cell? w _ hx234_7)).trans hx234_7
                      have HR234_2 := Aside0.mk hi234_2
                      have HC234_2 := Aside0.mk hl234_2
                      clear hi234_2 hl234_2
                      have HR234_3 := Aside0.mk hi234_3
                      have HC234_3 := Aside0.mk hl234_3
                      clear hi234_3 hl234_3
                      have HR234_7 := Aside0.mk hi234_7
                      have HC234_7 := Aside0.mk hl234_7
                      clear hi234_7 hl234_7
                      replace p234 := eq_true p234
                      replace q234 := eq_true q234
                      go_wp2_with (first | ((with_reducible refine gate_dst (N := 4) rfl ?_); (try (refine gate_guard (by rfl) ?_; dsimp only)); refine box_event ?hg (N := 4) ?hd (cs := #[.string (⟨#[]⟩ : ByteArray), .int .i64 0, .slice none 0 0, .slice none 0 0, .int .u8 0, .int .i64 0, .string (⟨#[]⟩ : ByteArray), .slice none 0 0]) (t := 65) ?hr ?_; (case hd => rfl); (case hg => rfl); (case hr => first | (go_simp; done) | (go_simp; rfl)); intro gb235 hg w17 hbox hb; have n0_ := Aside0.mk (blk_below (g := gb233) (o := .cells #[.slice A0_0 l0_0.length c0_0, .slice (some ad234) l0_1.length c0_1] 50 (0, 0)) (by (with_reducible repeat (first | refine blk_drewN ?_ _ | refine blk_drew ?_ | refine blk_alloc ?_ _)); exact BK233.out) hb); have n1_ := Aside0.mk (below_step (by repeat (first | (with_reducible first | exact HB.out | apply below_alloc | apply pw_below_drewN | apply below_drew1 | refine below_set ?_ GE233.out) | exact HB.out)) hb); have n2_ := Aside0.mk (hbox); have n3_ := Aside0.mk ((by rw [hg]; exact (below_size (by repeat (first | (with_reducible first | exact HB.out | apply below_alloc | apply pw_below_drewN | apply below_drew1 | refine below_set ?_ GE233.out) | exact HB.out))) : w.heap.size ≤ gb235)); have n4_ := Aside0.mk ((by rw [hg]; exact (below_size (by repeat (first | (with_reducible first | exact HB.out | apply below_alloc | apply pw_below_drewN | apply below_drew1 | refine below_set ?_ GE233.out) | exact HB.out))) : w.heap.size ≤ gb235)); have n5_ := Aside0.mk ((by rw [hg]; exact Nat.ne_of_lt (blk_lt (g := gb233) (o := .cells #[.slice A0_0 l0_0.length c0_0, .slice (some ad234) l0_1.length c0_1] 50 (0, 0)) (by (with_reducible repeat (first | refine blk_drewN ?_ _ | refine blk_drew ?_ | refine blk_alloc ?_ _)); exact BK233.out)) : gb233 ≠ gb235)); have n6_ := Aside0.mk ((by rw [hg]; exact Nat.ne_of_gt (blk_lt (g := gb233) (o := .cells #[.slice A0_0 l0_0.length c0_0, .slice (some ad234) l0_1.length c0_1] 50 (0, 0)) (by (with_reducible repeat (first | refine blk_drewN ?_ _ | refine blk_drew ?_ | refine blk_alloc ?_ _)); exact BK233.out)) : gb235 ≠ gb233)); clear BK233; clear HB; have BK233 := n0_; have HB := n1_; have BK235 := n2_; have GW235 := n3_; have GE235 := n4_; have NB233_235 := n5_; have NB235_233 := n6_; clear n0_ n1_ n2_ n3_ n4_ n5_ n6_; clear hb hbox hg; have hnb18 := NB235_233.out; have hnc18 := NB233_235.out; have hcz19_0 : w17.cell? ⟨gb235, 0, none⟩ = some (.string (⟨#[]⟩ : ByteArray)) := (blk_cell BK235.out 0).trans rfl; have hcz19_1 : w17.cell? ⟨gb235, 1, none⟩ = some (.int .i64 0) := (blk_cell BK235.out 1).trans rfl; have hcz19_2 : w17.cell? ⟨gb235, 2, none⟩ = some (.slice none 0 0) := (blk_cell BK235.out 2).trans rfl; have hcz19_3 : w17.cell? ⟨gb235, 3, none⟩ = some (.slice none 0 0) := (blk_cell BK235.out 3).trans rfl; have hcz19_4 : w17.cell? ⟨gb235, 4, none⟩ = some (.int .u8 0) := (blk_cell BK235.out 4).trans rfl; have hcz19_5 : w17.cell? ⟨gb235, 5, none⟩ = some (.int .i64 0) := (blk_cell BK235.out 5).trans rfl; have hcz19_6 : w17.cell? ⟨gb235, 6, none⟩ = some (.string (⟨#[]⟩ : ByteArray)) := (blk_cell BK235.out 6).trans rfl; have hcz19_7 : w17.cell? ⟨gb235, 7, none⟩ = some (.slice none 0 0) := (blk_cell BK235.out 7).trans rfl; have hfz19_0 := blk_frozen BK235.out 0; have hfz19_1 := blk_frozen BK235.out 1; have hfz19_2 := blk_frozen BK235.out 2; have hfz19_3 := blk_frozen BK235.out 3; have hfz19_4 := blk_frozen BK235.out 4; have hfz19_5 := blk_frozen BK235.out 5; have hfz19_6 := blk_frozen BK235.out 6; have hfz19_7 := blk_frozen BK235.out 7))
                      go_ret
                      exact ⟨by first | rfl | (simp [errW_none, errW_some] <;> rfl) | (simp [*, errW_none, errW_some] <;> rfl), by repeat (first | (with_reducible first | exact HB.out | apply below_alloc | apply pw_below_drewN | apply below_drew1 | refine below_set ?_ GE233.out | refine below_set ?_ GE235.out) | exact HB.out)⟩
                    · rw [if_neg c16] at H
                      have c16b0 : decide (10 < (((rd_T65 l0_1 x18_2).f3).length : Int)) = false := decide_eq_false c16
                      have c16b1 : decide (10 < ((rd_T65 l0_1 x18_2).f3).length) = false := decide_eq_false (by omega)
                      clear c16
                      replace H := Option.bind_eq_some_iff.mp H
                      obtain ⟨t236, A200, H⟩ := H
                      replace H : (if t236 = 1 then (some 1) else (ontimelaw12_Great.l0 k2 l0_1 (l0_1.length : Int) (wrap64 (x18_2 + 1)))) = some r := H
                      have A20 := Aside0.mk A200
                      clear A200
                      by_cases c21 : t236 = 1
                      · rw [if_pos c21] at H
                        have c21b0 : (t236 == 1) = true := beq_iff_eq.mpr c21
                        have c21b1 : (t236 != 1) = false := bne_eq_false_iff_eq.mpr c21
                        clear c21
                        obtain rfl := Option.some.inj H
                        have p234 : 0 ≤ (x18_2 : Int) := of_decide_eq_true (by first | (with_reducible assumption) | assumption)
                        have q234 : x18_2 < (l0_1.length : Int) := of_decide_eq_true (by first | (with_reducible assumption) | assumption)
                        obtain ⟨ad234, A234_2, c234_2, A234_3, c234_3, A234_7, c234_7, e234, hx234_0, hx234_1, hx234_2, hx234_3, hx234_4, hx234_5, hx234_6, hx234_7, hl234_2, hi234_2, hl234_3, hi234_3, hl234_7, hi234_7⟩ := at_T65 HR0_1.out x18_2 p234 q234
                        cases e234
                        replace hx234_0 := (HB.out.cell (World.block_lt_of_cell? w _ hx234_0)).trans hx234_0
                        replace hx234_1 := (HB.out.cell (World.block_lt_of_cell? w _ hx234_1)).trans hx234_1
                        replace hx234_2 := (HB.out.cell (World.block_lt_of_cell? w _ hx234_2)).trans hx234_2
                        replace hx234_3 := (HB.out.cell (World.block_lt_of_cell? w _ hx234_3)).trans hx234_3
                        replace hx234_4 := (HB.out.cell (World.block_lt_of_cell? w _ hx234_4)).trans hx234_4
                        replace hx234_5 := (HB.out.cell (World.block_lt_of_cell? w _ hx234_5)).trans hx234_5
                        replace hx234_6 := (HB.out.cell (World.block_lt_of_cell? w _ hx234_6)).trans hx234_6
                        replace hx234_7 := (HB.out.cell (World.block_lt_of_cell? w _ hx234_7)).trans hx234_7
                        have HR234_2 := Aside0.mk hi234_2
                        have HC234_2 := Aside0.mk hl234_2
                        clear hi234_2 hl234_2
                        have HR234_3 := Aside0.mk hi234_3
                        have HC234_3 := Aside0.mk hl234_3
                        clear hi234_3 hl234_3
                        have HR234_7 := Aside0.mk hi234_7
                        have HC234_7 := Aside0.mk hl234_7
                        clear hi234_7 hl234_7
                        replace p234 := eq_true p234
                        replace q234 := eq_true q234
                        go_wp2_with (first | ((with_reducible refine gate_dst (N := 4) rfl ?_); (try (refine gate_guard (by rfl) ?_; dsimp only)); refine box_event ?hg (N := 4) ?hd (cs := #[.string (⟨#[]⟩ : ByteArray), .int .i64 0, .slice none 0 0, .slice none 0 0, .int .u8 0, .int .i64 0, .string (⟨#[]⟩ : ByteArray), .slice none 0 0]) (t := 65) ?hr ?_; (case hd => rfl); (case hg => rfl); (case hr => first | (go_simp; done) | (go_simp; rfl)); intro gb235 hg w22 hbox hb; have n0_ := Aside0.mk (blk_below (g := gb233) (o := .cells #[.slice A0_0 l0_0.length c0_0, .slice (some ad234) l0_1.length c0_1] 50 (0, 0)) (by (with_reducible repeat (first | refine blk_drewN ?_ _ | refine blk_drew ?_ | refine blk_alloc ?_ _)); exact BK233.out) hb); have n1_ := Aside0.mk (below_step (by repeat (first | (with_reducible first | exact HB.out | apply below_alloc | apply pw_below_drewN | apply below_drew1 | refine below_set ?_ GE233.out) | exact HB.out)) hb); have n2_ := Aside0.mk (hbox); have n3_ := Aside0.mk ((by rw [hg]; exact (below_size (by repeat (first | (with_reducible first | exact HB.out | apply below_alloc | apply pw_below_drewN | apply below_drew1 | refine below_set ?_ GE233.out) | exact HB.out))) : w.heap.size ≤ gb235)); have n4_ := Aside0.mk ((by rw [hg]; exact (below_size (by repeat (first | (with_reducible first | exact HB.out | apply below_alloc | apply pw_below_drewN | apply below_drew1 | refine below_set ?_ GE233.out) | exact HB.out))) : w.heap.size ≤ gb235)); have n5_ := Aside0.mk ((by rw [hg]; exact Nat.ne_of_lt (blk_lt (g := gb233) (o := .cells #[.slice A0_0 l0_0.length c0_0, .slice (some ad234) l0_1.length c0_1] 50 (0, 0)) (by (with_reducible repeat (first | refine blk_drewN ?_ _ | refine blk_drew ?_ | refine blk_alloc ?_ _)); exact BK233.out)) : gb233 ≠ gb235)); have n6_ := Aside0.mk ((by rw [hg]; exact Nat.ne_of_gt (blk_lt (g := gb233) (o := .cells #[.slice A0_0 l0_0.length c0_0, .slice (some ad234) l0_1.length c0_1] 50 (0, 0)) (by (with_reducible repeat (first | refine blk_drewN ?_ _ | refine blk_drew ?_ | refine blk_alloc ?_ _)); exact BK233.out)) : gb235 ≠ gb233)); clear BK233; clear HB; have BK233 := n0_; have HB := n1_; have BK235 := n2_; have GW235 := n3_; have GE235 := n4_; have NB233_235 := n5_; have NB235_233 := n6_; clear n0_ n1_ n2_ n3_ n4_ n5_ n6_; clear hb hbox hg; have hnb23 := NB235_233.out; have hnc23 := NB233_235.out; have hcz24_0 : w22.cell? ⟨gb235, 0, none⟩ = some (.string (⟨#[]⟩ : ByteArray)) := (blk_cell BK235.out 0).trans rfl; have hcz24_1 : w22.cell? ⟨gb235, 1, none⟩ = some (.int .i64 0) := (blk_cell BK235.out 1).trans rfl; have hcz24_2 : w22.cell? ⟨gb235, 2, none⟩ = some (.slice none 0 0) := (blk_cell BK235.out 2).trans rfl; have hcz24_3 : w22.cell? ⟨gb235, 3, none⟩ = some (.slice none 0 0) := (blk_cell BK235.out 3).trans rfl; have hcz24_4 : w22.cell? ⟨gb235, 4, none⟩ = some (.int .u8 0) := (blk_cell BK235.out 4).trans rfl; have hcz24_5 : w22.cell? ⟨gb235, 5, none⟩ = some (.int .i64 0) := (blk_cell BK235.out 5).trans rfl; have hcz24_6 : w22.cell? ⟨gb235, 6, none⟩ = some (.string (⟨#[]⟩ : ByteArray)) := (blk_cell BK235.out 6).trans rfl; have hcz24_7 : w22.cell? ⟨gb235, 7, none⟩ = some (.slice none 0 0) := (blk_cell BK235.out 7).trans rfl; have hfz24_0 := blk_frozen BK235.out 0; have hfz24_1 := blk_frozen BK235.out 1; have hfz24_2 := blk_frozen BK235.out 2; have hfz24_3 := blk_frozen BK235.out 3; have hfz24_4 := blk_frozen BK235.out 4; have hfz24_5 := blk_frozen BK235.out 5; have hfz24_6 := blk_frozen BK235.out 6; have hfz24_7 := blk_frozen BK235.out 7) | (go_at_call 22; (with_reducible refine (ontimelaw12_Big.calls k2 ((rd_T65 l0_1 x18_2).f4.f0) ((rd_T65 l0_1 x18_2).f4.f1) ((rd_T65 l0_1 x18_2).f4.f2) _ _ ((rd_T65 l0_1 x18_2).f4.f3) t236 _ ?side1 ?side2 A20.out).mono ?_); (case side1 => exact Kd.C_below HR234_7.out (by repeat (first | (with_reducible first | exact HB.out | apply below_alloc | apply pw_below_drewN | apply below_drew1 | refine below_set ?_ GE233.out | refine below_set ?_ GE235.out) | exact HB.out))); (case side2 => exact HC234_7.out); rintro e w25 ⟨rfl, hb⟩; have n0_ := Aside0.mk (blk_below (g := gb233) (o := .cells #[.slice A0_0 l0_0.length c0_0, .slice (some ad234) l0_1.length c0_1] 50 (0, 0)) (by (with_reducible repeat (first | refine blk_drewN ?_ _ | refine blk_drew ?_ | refine blk_alloc ?_ _)); refine blk_far ?_ NB233_235.out _; (with_reducible repeat (first | refine blk_drewN ?_ _ | refine blk_drew ?_ | refine blk_alloc ?_ _)); refine blk_far ?_ NB233_235.out _; (with_reducible repeat (first | refine blk_drewN ?_ _ | refine blk_drew ?_ | refine blk_alloc ?_ _)); refine blk_far ?_ NB233_235.out _; (with_reducible repeat (first | refine blk_drewN ?_ _ | refine blk_drew ?_ | refine blk_alloc ?_ _)); refine blk_far ?_ NB233_235.out _; (with_reducible repeat (first | refine blk_drewN ?_ _ | refine blk_drew ?_ | refine blk_alloc ?_ _)); refine blk_far ?_ NB233_235.out _; (with_reducible repeat (first | refine blk_drewN ?_ _ | refine blk_drew ?_ | refine blk_alloc ?_ _)); refine blk_far ?_ NB233_235.out _; (with_reducible repeat (first | refine blk_drewN ?_ _ | refine blk_drew ?_ | refine blk_alloc ?_ _)); refine blk_far ?_ NB233_235.out _; (with_reducible repeat (first | refine blk_drewN ?_ _ | refine blk_drew ?_ | refine blk_alloc ?_ _)); refine blk_far ?_ NB233_235.out _; (with_reducible repeat (first | refine blk_drewN ?_ _ | refine blk_drew ?_ | refine blk_alloc ?_ _)); exact BK233.out) hb); have n1_ := Aside0.mk (blk_below (g := gb235) (o := .cells #[.string ((rd_T65 l0_1 x18_2).f0), .int .i64 ((rd_T65 l0_1 x18_2).f1), .slice A234_2 ((rd_T65 l0_1 x18_2).f2).length c234_2, .slice A234_3 ((rd_T65 l0_1 x18_2).f3).length c234_3, .int .u8 ((rd_T65 l0_1 x18_2).f4.f0), .int .i64 ((rd_T65 l0_1 x18_2).f4.f1), .string ((rd_T65 l0_1 x18_2).f4.f2), .slice A234_7 ((rd_T65 l0_1 x18_2).f4.f3).length c234_7] 65 (0, 0)) (by (with_reducible repeat (first | refine blk_drewN ?_ _ | refine blk_drew ?_ | refine blk_alloc ?_ _)); refine blk_put (cs := #[.string ((rd_T65 l0_1 x18_2).f0), .int .i64 ((rd_T65 l0_1 x18_2).f1), .slice A234_2 ((rd_T65 l0_1 x18_2).f2).length c234_2, .slice A234_3 ((rd_T65 l0_1 x18_2).f3).length c234_3, .int .u8 ((rd_T65 l0_1 x18_2).f4.f0), .int .i64 ((rd_T65 l0_1 x18_2).f4.f1), .string ((rd_T65 l0_1 x18_2).f4.f2), .slice none 0 0]) ?_ 7 _ rfl; (with_reducible repeat (first | refine blk_drewN ?_ _ | refine blk_drew ?_ | refine blk_alloc ?_ _)); refine blk_put (cs := #[.string ((rd_T65 l0_1 x18_2).f0), .int .i64 ((rd_T65 l0_1 x18_2).f1), .slice A234_2 ((rd_T65 l0_1 x18_2).f2).length c234_2, .slice A234_3 ((rd_T65 l0_1 x18_2).f3).length c234_3, .int .u8 ((rd_T65 l0_1 x18_2).f4.f0), .int .i64 ((rd_T65 l0_1 x18_2).f4.f1), .string (⟨#[]⟩ : ByteArray), .slice none 0 0]) ?_ 6 _ rfl; (with_reducible repeat (first | refine blk_drewN ?_ _ | refine blk_drew ?_ | refine blk_alloc ?_ _)); refine blk_put (cs := #[.string ((rd_T65 l0_1 x18_2).f0), .int .i64 ((rd_T65 l0_1 x18_2).f1), .slice A234_2 ((rd_T65 l0_1 x18_2).f2).length c234_2, .slice A234_3 ((rd_T65 l0_1 x18_2).f3).length c234_3, .int .u8 ((rd_T65 l0_1 x18_2).f4.f0), .int .i64 0, .string (⟨#[]⟩ : ByteArray), .slice none 0 0]) ?_ 5 _ rfl; (with_reducible repeat (first | refine blk_drewN ?_ _ | refine blk_drew ?_ | refine blk_alloc ?_ _)); refine blk_put (cs := #[.string ((rd_T65 l0_1 x18_2).f0), .int .i64 ((rd_T65 l0_1 x18_2).f1), .slice A234_2 ((rd_T65 l0_1 x18_2).f2).length c234_2, .slice A234_3 ((rd_T65 l0_1 x18_2).f3).length c234_3, .int .u8 0, .int .i64 0, .string (⟨#[]⟩ : ByteArray), .slice none 0 0]) ?_ 4 _ rfl; (with_reducible repeat (first | refine blk_drewN ?_ _ | refine blk_drew ?_ | refine blk_alloc ?_ _)); refine blk_put (cs := #[.string ((rd_T65 l0_1 x18_2).f0), .int .i64 ((rd_T65 l0_1 x18_2).f1), .slice A234_2 ((rd_T65 l0_1 x18_2).f2).length c234_2, .slice none 0 0, .int .u8 0, .int .i64 0, .string (⟨#[]⟩ : ByteArray), .slice none 0 0]) ?_ 3 _ rfl; (with_reducible repeat (first | refine blk_drewN ?_ _ | refine blk_drew ?_ | refine blk_alloc ?_ _)); refine blk_put (cs := #[.string ((rd_T65 l0_1 x18_2).f0), .int .i64 ((rd_T65 l0_1 x18_2).f1), .slice none 0 0, .slice none 0 0, .int .u8 0, .int .i64 0, .string (⟨#[]⟩ : ByteArray), .slice none 0 0]) ?_ 2 _ rfl; (with_reducible repeat (first | refine blk_drewN ?_ _ | refine blk_drew ?_ | refine blk_alloc ?_ _)); refine blk_put (cs := #[.string ((rd_T65 l0_1 x18_2).f0), .int .i64 0, .slice none 0 0, .slice none 0 0, .int .u8 0, .int .i64 0, .string (⟨#[]⟩ : ByteArray), .slice none 0 0]) ?_ 1 _ rfl; (with_reducible repeat (first | refine blk_drewN ?_ _ | refine blk_drew ?_ | refine blk_alloc ?_ _)); refine blk_put (cs := #[.string (⟨#[]⟩ : ByteArray), .int .i64 0, .slice none 0 0, .slice none 0 0, .int .u8 0, .int .i64 0, .string (⟨#[]⟩ : ByteArray), .slice none 0 0]) ?_ 0 _ rfl; (with_reducible repeat (first | refine blk_drewN ?_ _ | refine blk_drew ?_ | refine blk_alloc ?_ _)); exact BK235.out) hb); have n2_ := Aside0.mk (below_step (by repeat (first | (with_reducible first | exact HB.out | apply below_alloc | apply pw_below_drewN | apply below_drew1 | refine below_set ?_ GE233.out | refine below_set ?_ GE235.out) | exact HB.out)) hb); clear BK233; clear BK235; clear HB; have BK233 := n0_; have BK235 := n1_; have HB := n2_; clear n0_ n1_ n2_; (try clear hb); (try clear hb2); (try clear hk); (try clear hi)))
                        go_ret
                        exact ⟨by first | rfl | (simp [errW_none, errW_some] <;> rfl) | (simp [*, errW_none, errW_some] <;> rfl), by repeat (first | (with_reducible first | exact HB.out | apply below_alloc | apply pw_below_drewN | apply below_drew1 | refine below_set ?_ GE233.out | refine below_set ?_ GE235.out) | exact HB.out)⟩
                      · rw [if_neg c21] at H
                        have c21b0 : (t236 == 1) = false := beq_eq_false_iff_ne.mpr c21
                        have c21b1 : (t236 != 1) = true := bne_iff_ne.mpr c21
                        have H' := Aside0.mk H
                        clear H
                        have p234 : 0 ≤ (x18_2 : Int) := of_decide_eq_true (by first | (with_reducible assumption) | assumption)
                        have q234 : x18_2 < (l0_1.length : Int) := of_decide_eq_true (by first | (with_reducible assumption) | assumption)
                        obtain ⟨ad234, A234_2, c234_2, A234_3, c234_3, A234_7, c234_7, e234, hx234_0, hx234_1, hx234_2, hx234_3, hx234_4, hx234_5, hx234_6, hx234_7, hl234_2, hi234_2, hl234_3, hi234_3, hl234_7, hi234_7⟩ := at_T65 HR0_1.out x18_2 p234 q234
                        cases e234
                        replace hx234_0 := (HB.out.cell (World.block_lt_of_cell? w _ hx234_0)).trans hx234_0
                        replace hx234_1 := (HB.out.cell (World.block_lt_of_cell? w _ hx234_1)).trans hx234_1
                        replace hx234_2 := (HB.out.cell (World.block_lt_of_cell? w _ hx234_2)).trans hx234_2
                        replace hx234_3 := (HB.out.cell (World.block_lt_of_cell? w _ hx234_3)).trans hx234_3
                        replace hx234_4 := (HB.out.cell (World.block_lt_of_cell? w _ hx234_4)).trans hx234_4
                        replace hx234_5 := (HB.out.cell (World.block_lt_of_cell? w _ hx234_5)).trans hx234_5
                        replace hx234_6 := (HB.out.cell (World.block_lt_of_cell? w _ hx234_6)).trans hx234_6
                        replace hx234_7 := (HB.out.cell (World.block_lt_of_cell? w _ hx234_7)).trans hx234_7
                        have HR234_2 := Aside0.mk hi234_2
                        have HC234_2 := Aside0.mk hl234_2
                        clear hi234_2 hl234_2
                        have HR234_3 := Aside0.mk hi234_3
                        have HC234_3 := Aside0.mk hl234_3
                        clear hi234_3 hl234_3
                        have HR234_7 := Aside0.mk hi234_7
                        have HC234_7 := Aside0.mk hl234_7
                        clear hi234_7 hl234_7
                        replace p234 := eq_true p234
                        replace q234 := eq_true q234
                        go_wp2_with (first | ((with_reducible refine gate_dst (N := 4) rfl ?_); (try (refine gate_guard (by rfl) ?_; dsimp only)); refine box_event ?hg (N := 4) ?hd (cs := #[.string (⟨#[]⟩ : ByteArray), .int .i64 0, .slice none 0 0, .slice none 0 0, .int .u8 0, .int .i64 0, .string (⟨#[]⟩ : ByteArray), .slice none 0 0]) (t := 65) ?hr ?_; (case hd => rfl); (case hg => rfl); (case hr => first | (go_simp; done) | (go_simp; rfl)); intro gb235 hg w26 hbox hb; have n0_ := Aside0.mk (blk_below (g := gb233) (o := .cells #[.slice A0_0 l0_0.length c0_0, .slice (some ad234) l0_1.length c0_1] 50 (0, 0)) (by (with_reducible repeat (first | refine blk_drewN ?_ _ | refine blk_drew ?_ | refine blk_alloc ?_ _)); exact BK233.out) hb); have n1_ := Aside0.mk (below_step (by repeat (first | (with_reducible first | exact HB.out | apply below_alloc | apply pw_below_drewN | apply below_drew1 | refine below_set ?_ GE233.out) | exact HB.out)) hb); have n2_ := Aside0.mk (hbox); have n3_ := Aside0.mk ((by rw [hg]; exact (below_size (by repeat (first | (with_reducible first | exact HB.out | apply below_alloc | apply pw_below_drewN | apply below_drew1 | refine below_set ?_ GE233.out) | exact HB.out))) : w.heap.size ≤ gb235)); have n4_ := Aside0.mk ((by rw [hg]; exact (below_size (by repeat (first | (with_reducible first | exact HB.out | apply below_alloc | apply pw_below_drewN | apply below_drew1 | refine below_set ?_ GE233.out) | exact HB.out))) : w.heap.size ≤ gb235)); have n5_ := Aside0.mk ((by rw [hg]; exact Nat.ne_of_lt (blk_lt (g := gb233) (o := .cells #[.slice A0_0 l0_0.length c0_0, .slice (some ad234) l0_1.length c0_1] 50 (0, 0)) (by (with_reducible repeat (first | refine blk_drewN ?_ _ | refine blk_drew ?_ | refine blk_alloc ?_ _)); exact BK233.out)) : gb233 ≠ gb235)); have n6_ := Aside0.mk ((by rw [hg]; exact Nat.ne_of_gt (blk_lt (g := gb233) (o := .cells #[.slice A0_0 l0_0.length c0_0, .slice (some ad234) l0_1.length c0_1] 50 (0, 0)) (by (with_reducible repeat (first | refine blk_drewN ?_ _ | refine blk_drew ?_ | refine blk_alloc ?_ _)); exact BK233.out)) : gb235 ≠ gb233)); clear BK233; clear HB; have BK233 := n0_; have HB := n1_; have BK235 := n2_; have GW235 := n3_; have GE235 := n4_; have NB233_235 := n5_; have NB235_233 := n6_; clear n0_ n1_ n2_ n3_ n4_ n5_ n6_; clear hb hbox hg; have hnb27 := NB235_233.out; have hnc27 := NB233_235.out; have hcz28_0 : w26.cell? ⟨gb235, 0, none⟩ = some (.string (⟨#[]⟩ : ByteArray)) := (blk_cell BK235.out 0).trans rfl; have hcz28_1 : w26.cell? ⟨gb235, 1, none⟩ = some (.int .i64 0) := (blk_cell BK235.out 1).trans rfl; have hcz28_2 : w26.cell? ⟨gb235, 2, none⟩ = some (.slice none 0 0) := (blk_cell BK235.out 2).trans rfl; have hcz28_3 : w26.cell? ⟨gb235, 3, none⟩ = some (.slice none 0 0) := (blk_cell BK235.out 3).trans rfl; have hcz28_4 : w26.cell? ⟨gb235, 4, none⟩ = some (.int .u8 0) := (blk_cell BK235.out 4).trans rfl; have hcz28_5 : w26.cell? ⟨gb235, 5, none⟩ = some (.int .i64 0) := (blk_cell BK235.out 5).trans rfl; have hcz28_6 : w26.cell? ⟨gb235, 6, none⟩ = some (.string (⟨#[]⟩ : ByteArray)) := (blk_cell BK235.out 6).trans rfl; have hcz28_7 : w26.cell? ⟨gb235, 7, none⟩ = some (.slice none 0 0) := (blk_cell BK235.out 7).trans rfl; have hfz28_0 := blk_frozen BK235.out 0; have hfz28_1 := blk_frozen BK235.out 1; have hfz28_2 := blk_frozen BK235.out 2; have hfz28_3 := blk_frozen BK235.out 3; have hfz28_4 := blk_frozen BK235.out 4; have hfz28_5 := blk_frozen BK235.out 5; have hfz28_6 := blk_frozen BK235.out 6; have hfz28_7 := blk_frozen BK235.out 7) | (go_at_call 22; (with_reducible refine (ontimelaw12_Big.calls k2 ((rd_T65 l0_1 x18_2).f4.f0) ((rd_T65 l0_1 x18_2).f4.f1) ((rd_T65 l0_1 x18_2).f4.f2) _ _ ((rd_T65 l0_1 x18_2).f4.f3) t236 _ ?side1 ?side2 A20.out).mono ?_); (case side1 => exact Kd.C_below HR234_7.out (by repeat (first | (with_reducible first | exact HB.out | apply below_alloc | apply pw_below_drewN | apply below_drew1 | refine below_set ?_ GE233.out | refine below_set ?_ GE235.out) | exact HB.out))); (case side2 => exact HC234_7.out); rintro e w29 ⟨rfl, hb⟩; have n0_ := Aside0.mk (blk_below (g := gb233) (o := .cells #[.slice A0_0 l0_0.length c0_0, .slice (some ad234) l0_1.length c0_1] 50 (0, 0)) (by (with_reducible repeat (first | refine blk_drewN ?_ _ | refine blk_drew ?_ | refine blk_alloc ?_ _)); refine blk_far ?_ NB233_235.out _; (with_reducible repeat (first | refine blk_drewN ?_ _ | refine blk_drew ?_ | refine blk_alloc ?_ _)); refine blk_far ?_ NB233_235.out _; (with_reducible repeat (first | refine blk_drewN ?_ _ | refine blk_drew ?_ | refine blk_alloc ?_ _)); refine blk_far ?_ NB233_235.out _; (with_reducible repeat (first | refine blk_drewN ?_ _ | refine blk_drew ?_ | refine blk_alloc ?_ _)); refine blk_far ?_ NB233_235.out _; (with_reducible repeat (first | refine blk_drewN ?_ _ | refine blk_drew ?_ | refine blk_alloc ?_ _)); refine blk_far ?_ NB233_235.out _; (with_reducible repeat (first | refine blk_drewN ?_ _ | refine blk_drew ?_ | refine blk_alloc ?_ _)); refine blk_far ?_ NB233_235.out _; (with_reducible repeat (first | refine blk_drewN ?_ _ | refine blk_drew ?_ | refine blk_alloc ?_ _)); refine blk_far ?_ NB233_235.out _; (with_reducible repeat (first | refine blk_drewN ?_ _ | refine blk_drew ?_ | refine blk_alloc ?_ _)); refine blk_far ?_ NB233_235.out _; (with_reducible repeat (first | refine blk_drewN ?_ _ | refine blk_drew ?_ | refine blk_alloc ?_ _)); exact BK233.out) hb); have n1_ := Aside0.mk (blk_below (g := gb235) (o := .cells #[.string ((rd_T65 l0_1 x18_2).f0), .int .i64 ((rd_T65 l0_1 x18_2).f1), .slice A234_2 ((rd_T65 l0_1 x18_2).f2).length c234_2, .slice A234_3 ((rd_T65 l0_1 x18_2).f3).length c234_3, .int .u8 ((rd_T65 l0_1 x18_2).f4.f0), .int .i64 ((rd_T65 l0_1 x18_2).f4.f1), .string ((rd_T65 l0_1 x18_2).f4.f2), .slice A234_7 ((rd_T65 l0_1 x18_2).f4.f3).length c234_7] 65 (0, 0)) (by (with_reducible repeat (first | refine blk_drewN ?_ _ | refine blk_drew ?_ | refine blk_alloc ?_ _)); refine blk_put (cs := #[.string ((rd_T65 l0_1 x18_2).f0), .int .i64 ((rd_T65 l0_1 x18_2).f1), .slice A234_2 ((rd_T65 l0_1 x18_2).f2).length c234_2, .slice A234_3 ((rd_T65 l0_1 x18_2).f3).length c234_3, .int .u8 ((rd_T65 l0_1 x18_2).f4.f0), .int .i64 ((rd_T65 l0_1 x18_2).f4.f1), .string ((rd_T65 l0_1 x18_2).f4.f2), .slice none 0 0]) ?_ 7 _ rfl; (with_reducible repeat (first | refine blk_drewN ?_ _ | refine blk_drew ?_ | refine blk_alloc ?_ _)); refine blk_put (cs := #[.string ((rd_T65 l0_1 x18_2).f0), .int .i64 ((rd_T65 l0_1 x18_2).f1), .slice A234_2 ((rd_T65 l0_1 x18_2).f2).length c234_2, .slice A234_3 ((rd_T65 l0_1 x18_2).f3).length c234_3, .int .u8 ((rd_T65 l0_1 x18_2).f4.f0), .int .i64 ((rd_T65 l0_1 x18_2).f4.f1), .string (⟨#[]⟩ : ByteArray), .slice none 0 0]) ?_ 6 _ rfl; (with_reducible repeat (first | refine blk_drewN ?_ _ | refine blk_drew ?_ | refine blk_alloc ?_ _)); refine blk_put (cs := #[.string ((rd_T65 l0_1 x18_2).f0), .int .i64 ((rd_T65 l0_1 x18_2).f1), .slice A234_2 ((rd_T65 l0_1 x18_2).f2).length c234_2, .slice A234_3 ((rd_T65 l0_1 x18_2).f3).length c234_3, .int .u8 ((rd_T65 l0_1 x18_2).f4.f0), .int .i64 0, .string (⟨#[]⟩ : ByteArray), .slice none 0 0]) ?_ 5 _ rfl; (with_reducible repeat (first | refine blk_drewN ?_ _ | refine blk_drew ?_ | refine blk_alloc ?_ _)); refine blk_put (cs := #[.string ((rd_T65 l0_1 x18_2).f0), .int .i64 ((rd_T65 l0_1 x18_2).f1), .slice A234_2 ((rd_T65 l0_1 x18_2).f2).length c234_2, .slice A234_3 ((rd_T65 l0_1 x18_2).f3).length c234_3, .int .u8 0, .int .i64 0, .string (⟨#[]⟩ : ByteArray), .slice none 0 0]) ?_ 4 _ rfl; (with_reducible repeat (first | refine blk_drewN ?_ _ | refine blk_drew ?_ | refine blk_alloc ?_ _)); refine blk_put (cs := #[.string ((rd_T65 l0_1 x18_2).f0), .int .i64 ((rd_T65 l0_1 x18_2).f1), .slice A234_2 ((rd_T65 l0_1 x18_2).f2).length c234_2, .slice none 0 0, .int .u8 0, .int .i64 0, .string (⟨#[]⟩ : ByteArray), .slice none 0 0]) ?_ 3 _ rfl; (with_reducible repeat (first | refine blk_drewN ?_ _ | refine blk_drew ?_ | refine blk_alloc ?_ _)); refine blk_put (cs := #[.string ((rd_T65 l0_1 x18_2).f0), .int .i64 ((rd_T65 l0_1 x18_2).f1), .slice none 0 0, .slice none 0 0, .int .u8 0, .int .i64 0, .string (⟨#[]⟩ : ByteArray), .slice none 0 0]) ?_ 2 _ rfl; (with_reducible repeat (first | refine blk_drewN ?_ _ | refine blk_drew ?_ | refine blk_alloc ?_ _)); refine blk_put (cs := #[.string ((rd_T65 l0_1 x18_2).f0), .int .i64 0, .slice none 0 0, .slice none 0 0, .int .u8 0, .int .i64 0, .string (⟨#[]⟩ : ByteArray), .slice none 0 0]) ?_ 1 _ rfl; (with_reducible repeat (first | refine blk_drewN ?_ _ | refine blk_drew ?_ | refine blk_alloc ?_ _)); refine blk_put (cs := #[.string (⟨#[]⟩ : ByteArray), .int .i64 0, .slice none 0 0, .slice none 0 0, .int .u8 0, .int .i64 0, .string (⟨#[]⟩ : ByteArray), .slice none 0 0]) ?_ 0 _ rfl; (with_reducible repeat (first | refine blk_drewN ?_ _ | refine blk_drew ?_ | refine blk_alloc ?_ _)); exact BK235.out) hb); have n2_ := Aside0.mk (below_step (by repeat (first | (with_reducible first | exact HB.out | apply below_alloc | apply pw_below_drewN | apply below_drew1 | refine below_set ?_ GE233.out | refine below_set ?_ GE235.out) | exact HB.out)) hb); clear BK233; clear BK235; clear HB; have BK233 := n0_; have BK235 := n1_; have HB := n2_; clear n0_ n1_ n2_; (try clear hb); (try clear hb2); (try clear hk); (try clear hi)))
                        go_roundg k2
                        case measure => have := HJ1.out; have := HK2.out; omega
                        case rel => exact ⟨(wrap64 (x18_2 + 1)), (by first | rfl | (simp; done) | (simp [*]; done)), H', ⟨by have := HJ1.out; have := HK2.out; omega⟩, ⟨by (with_reducible repeat (first | refine blk_drewN ?_ _ | refine blk_drew ?_ | refine blk_alloc ?_ _)); exact BK233.out⟩, ⟨by repeat (first | (with_reducible first | exact HB.out | apply below_alloc | apply pw_below_drewN | apply below_drew1 | refine below_set ?_ GE233.out | refine below_set ?_ GE235.out) | exact HB.out)⟩⟩
                · rw [if_neg c11] at H
                  exact absurd H (by simp)
              · rw [if_neg c10] at H
                exact absurd H (by simp)
            · rw [if_neg c9] at H
              have c9b0 : decide (x18_2 < (l0_1.length : Int)) = false := decide_eq_false c9
              clear c9
              obtain rfl := Option.some.inj H
              go_wp2
              go_ret
              exact ⟨by first | rfl | (simp [errW_none, errW_some] <;> rfl) | (simp [*, errW_none, errW_some] <;> rfl), by repeat (first | (with_reducible first | exact HB.out | apply below_alloc | apply pw_below_drewN | apply below_drew1 | refine below_set ?_ GE233.out) | exact HB.out)⟩

end Go.Proofs.YtmdbbfoejmakdaaDoor.P

-- LAID BY A PROGRAM OF THIS SESSION (see NOTES.md), Lean checks it.
import Derived.Test.YtmdbbfoejmakdaaDoorPx0
import Derived.Test.YtmdbbfoejmakdaaDoorPx2
import Derived.Test.YtmdbbfoejmakdaaDoorPx3
namespace Go.Proofs.YtmdbbfoejmakdaaDoor.P
open Go.RowKit Go.Proofs.YtmdbbfoejmakdaaDoorW.PrintWords Go.Proofs.YtmdbbfoejmakdaaDoorW.PrintLast Go.Proofs.YtmdbbfoejmakdaaDoorW.PrintMore
set_option linter.unusedVariables false
set_option linter.unusedSimpArgs false

/-! ### ontimeref11_Name: function 98 -/
def ontimeref11_Name.f (k : Nat) (a0 : ByteArray) : Option (Bool) := (ontimeref11_kind.f k a0).bind fun t124 => (if t124 = 1 then (if (a0.size : Int) ≤ 12 then ((ontimeref11_Keywords.f).bind fun t125 => ((ontimeref11_In.f k t125 a0).bind fun t128 => (some (!t128)))) else (some false)) else (some false))
theorem ontimeref11_Name.mono : ∀ a0 k, LeO (ontimeref11_Name.f k a0) (ontimeref11_Name.f (k + 1) a0) := by
  intro a0 k
  unfold ontimeref11_Name.f
  repeat' first
      | (with_reducible exact ontimeref11_In.mono _ _ _)
      | (with_reducible exact ontimeref11_kind.mono _ _)
      | (with_reducible exact LeO.refl _)
      | (with_reducible exact LeO.none _)
      | (with_reducible refine LeO.ite ?_ ?_)
      | (with_reducible refine LeO.bind ?_ (fun _ => ?_))
      | exact ontimeref11_In.mono _ _ _
      | exact ontimeref11_kind.mono _ _
      | exact LeO.none _
      | refine LeO.ite ?_ ?_
      | refine LeO.bind ?_ (fun _ => ?_)
set_option maxHeartbeats 8000000 in
set_option maxRecDepth 100000 in
theorem ontimeref11_Name.calls (k : Nat) (a0 : ByteArray) (r : Bool) (w : World) (h : ontimeref11_Name.f k a0 = some r) :
    Calls Tryd.prog 98 #[.string a0] w fun e w' => e = .returned (.bool r) ∧ Below w.heap.size w w' := by
  have HB := Aside0.mk (Below.refl w.heap.size w)
  have H : ((ontimeref11_kind.f k a0).bind fun t124 => (if t124 = 1 then (if (a0.size : Int) ≤ 12 then ((ontimeref11_Keywords.f).bind fun t125 => ((ontimeref11_In.f k t125 a0).bind fun t128 => (some (!t128)))) else (some false)) else (some false))) = some r := h
  clear h
  replace H := Option.bind_eq_some_iff.mp H
  obtain ⟨t124, A20, H⟩ := H
  replace H : (if t124 = 1 then (if (a0.size : Int) ≤ 12 then ((ontimeref11_Keywords.f).bind fun t125 => ((ontimeref11_In.f k t125 a0).bind fun t128 => (some (!t128)))) else (some false)) else (some false)) = some r := H
  have A2 := Aside0.mk A20
  clear A20
  by_cases c3 : t124 = 1
  · rw [if_pos c3] at H
    have c3b0 : (t124 == 1) = true := beq_iff_eq.mpr c3
    have c3b1 : (t124 != 1) = false := bne_eq_false_iff_eq.mpr c3
    clear c3
    by_cases c4 : (a0.size : Int) ≤ 12
    · rw [if_pos c4] at H
      have c4b0 : decide ((a0.size : Int) ≤ 12) = true := decide_eq_true c4
      have c4b1 : decide (a0.size ≤ 12) = true := decide_eq_true (by omega)
      clear c4
      replace H := Option.bind_eq_some_iff.mp H
      obtain ⟨t125, A50, H⟩ := H
      replace H : ((ontimeref11_In.f k t125 a0).bind fun t128 => (some (!t128))) = some r := H
      have A5 := Aside0.mk A50
      clear A50
      replace H := Option.bind_eq_some_iff.mp H
      obtain ⟨t128, A60, H⟩ := H
      replace H : (some (!t128)) = some r := H
      have A6 := Aside0.mk A60
      clear A60
      obtain rfl := Option.some.inj H
      go_enter Tryd.func98, Tryd.ntmps98
      go_wp2_with (first | ((with_reducible refine gate_callee (f := 127) rfl ?_); refine goesL_ (some 4) rfl rfl Tryd.func127 (by kernel_rfl) rfl #[.string a0] rfl (by (try simp only [List.map_toArray, List.map_cons, List.map_nil]); first | done | rfl | (simp only [List.length_drop, List.length_take]; rfl)) ?_; (with_reducible refine (ontimeref11_kind.calls k a0 t124 _ A2.out).mono ?_); rintro e w7 ⟨rfl, hb⟩; refine ⟨_, rfl, ?_⟩; have n0_ := Aside0.mk (below_step (by repeat (first | (with_reducible first | exact HB.out | apply below_alloc | apply pw_below_drewN | apply below_drew1) | exact HB.out)) hb); clear HB; have HB := n0_; clear n0_; (try clear hb); (try clear hb2); (try clear hk); (try clear hi)) | (go_at_call 129; (with_reducible refine (ontimeref11_Keywords.calls  t125 _ A5.out).mono ?_); rintro e w8 ⟨v126, rfl, ho0, hb⟩; have n0_ := Aside0.mk (Kd.R_lower ho0 (below_size (by repeat (first | (with_reducible first | exact HB.out | apply below_alloc | apply pw_below_drewN | apply below_drew1) | exact HB.out)))); have n1_ := Aside0.mk (below_step (by repeat (first | (with_reducible first | exact HB.out | apply below_alloc | apply pw_below_drewN | apply below_drew1) | exact HB.out)) hb); clear HB; have HO127 := n0_; have HB := n1_; clear n0_ n1_; (try clear hb); (try clear hb2); (try clear hk); (try clear hi); (try clear ho0); obtain ⟨Ao9, co9, eo9⟩ := Kd.R_slice HO127.out; subst eo9) | (go_at_call 128; (with_reducible refine (ontimeref11_In.calls k _ _ t125 a0 t128 _ ?side1 ?side2 A6.out).mono ?_); (case side1 => repeat (first | exact (Kd.R_reads' HO127.out).2.2 | (with_reducible refine Kd.C_alloc ?_ _) | (with_reducible refine Kd.C_drewN ?_ _) | (with_reducible refine Kd.C_drew ?_))); (case side2 => exact (Kd.R_reads' HO127.out).2.1); rintro e w' ⟨rfl, ⟨nd, rfl⟩⟩))
      go_ret
      exact ⟨by first | rfl | (simp [errW_none, errW_some] <;> rfl) | (simp [*, errW_none, errW_some] <;> rfl), by repeat (first | (with_reducible first | exact HB.out | apply below_alloc | apply pw_below_drewN | apply below_drew1) | exact HB.out)⟩
    · rw [if_neg c4] at H
      have c4b0 : decide ((a0.size : Int) ≤ 12) = false := decide_eq_false c4
      have c4b1 : decide (a0.size ≤ 12) = false := decide_eq_false (by omega)
      clear c4
      obtain rfl := Option.some.inj H
      go_enter Tryd.func98, Tryd.ntmps98
      go_wp2_with (first | ((with_reducible refine gate_callee (f := 127) rfl ?_); refine goesL_ (some 4) rfl rfl Tryd.func127 (by kernel_rfl) rfl #[.string a0] rfl (by (try simp only [List.map_toArray, List.map_cons, List.map_nil]); first | done | rfl | (simp only [List.length_drop, List.length_take]; rfl)) ?_; (with_reducible refine (ontimeref11_kind.calls k a0 t124 _ A2.out).mono ?_); rintro e w10 ⟨rfl, hb⟩; refine ⟨_, rfl, ?_⟩; have n0_ := Aside0.mk (below_step (by repeat (first | (with_reducible first | exact HB.out | apply below_alloc | apply pw_below_drewN | apply below_drew1) | exact HB.out)) hb); clear HB; have HB := n0_; clear n0_; (try clear hb); (try clear hb2); (try clear hk); (try clear hi)))
      go_ret
      exact ⟨by first | rfl | (simp [errW_none, errW_some] <;> rfl) | (simp [*, errW_none, errW_some] <;> rfl), by repeat (first | (with_reducible first | exact HB.out | apply below_alloc | apply pw_below_drewN | apply below_drew1) | exact HB.out)⟩
  · rw [if_neg c3] at H
    have c3b0 : (t124 == 1) = false := beq_eq_false_iff_ne.mpr c3
    have c3b1 : (t124 != 1) = true := bne_iff_ne.mpr c3
    obtain rfl := Option.some.inj H
    go_enter Tryd.func98, Tryd.ntmps98
    go_wp2_with (first | ((with_reducible refine gate_callee (f := 127) rfl ?_); refine goesL_ (some 4) rfl rfl Tryd.func127 (by kernel_rfl) rfl #[.string a0] rfl (by (try simp only [List.map_toArray, List.map_cons, List.map_nil]); first | done | rfl | (simp only [List.length_drop, List.length_take]; rfl)) ?_; (with_reducible refine (ontimeref11_kind.calls k a0 t124 _ A2.out).mono ?_); rintro e w11 ⟨rfl, hb⟩; refine ⟨_, rfl, ?_⟩; have n0_ := Aside0.mk (below_step (by repeat (first | (with_reducible first | exact HB.out | apply below_alloc | apply pw_below_drewN | apply below_drew1) | exact HB.out)) hb); clear HB; have HB := n0_; clear n0_; (try clear hb); (try clear hb2); (try clear hk); (try clear hi)))
    go_ret
    exact ⟨by first | rfl | (simp [errW_none, errW_some] <;> rfl) | (simp [*, errW_none, errW_some] <;> rfl), by repeat (first | (with_reducible first | exact HB.out | apply below_alloc | apply pw_below_drewN | apply below_drew1) | exact HB.out)⟩

/-! ### ontimeref12_Form: function 119 -/
mutual
def ontimeref12_Form.j0 : Nat → Int → Bool → Option (ByteArray × Bool × Bool × Bool)
  | 0, _, _ => none
  | k + 1, x0, x11 => if x11 = true then (some ((⟨#[101, 101]⟩ : ByteArray), false, false, true)) else (if x0 = 1 then (some ((⟨#[]⟩ : ByteArray), false, true, true)) else (if x0 = 2 then (some ((⟨#[]⟩ : ByteArray), true, false, true)) else (if x0 = 3 then (some ((⟨#[101]⟩ : ByteArray), true, false, true)) else (if x0 = 4 then (ontimeref12_Form.j1 k x0 (x0 == 4)) else (ontimeref12_Form.j1 k x0 (x0 == 5))))))
def ontimeref12_Form.j1 : Nat → Int → Bool → Option (ByteArray × Bool × Bool × Bool)
  | 0, _, _ => none
  | k + 1, x12, x19 => if x19 = true then (some ((⟨#[101]⟩ : ByteArray), false, false, true)) else (if x12 = 40 then (some ((⟨#[112, 101]⟩ : ByteArray), false, false, true)) else (if x12 = 41 then (some ((⟨#[101, 98, 98]⟩ : ByteArray), false, false, true)) else (if x12 = 42 then (some ((⟨#[98]⟩ : ByteArray), true, true, true)) else (if x12 = 43 then (some ((⟨#[101, 98]⟩ : ByteArray), false, true, true)) else (if x12 = 44 then (some ((⟨#[112]⟩ : ByteArray), false, true, true)) else (if x12 = 45 then (some ((⟨#[101]⟩ : ByteArray), false, true, true)) else (if x12 = 46 then (some ((⟨#[98]⟩ : ByteArray), true, false, true)) else (if x12 = 47 then (some ((⟨#[42]⟩ : ByteArray), false, false, true)) else (some ((⟨#[]⟩ : ByteArray), false, false, false))))))))))
end
def ontimeref12_Form.f (k : Nat) (a0 : Int) : Option (ByteArray × Bool × Bool × Bool) := if a0 ≥ 6 then (ontimeref12_Form.j0 k a0 (decide (a0 ≤ 23))) else (ontimeref12_Form.j0 k a0 false)
theorem ontimeref12_Form.mono_l : ∀ k, (∀ y0 y1, LeO (ontimeref12_Form.j0 k y0 y1) (ontimeref12_Form.j0 (k + 1) y0 y1)) ∧ (∀ y0 y1, LeO (ontimeref12_Form.j1 k y0 y1) (ontimeref12_Form.j1 (k + 1) y0 y1))
  | 0 => ⟨fun _ _ r h => by simp [ontimeref12_Form.j0] at h, fun _ _ r h => by simp [ontimeref12_Form.j1] at h⟩
  | k + 1 => by
    obtain ⟨ih0, ih1⟩ := ontimeref12_Form.mono_l k
    refine ⟨?_, ?_⟩
    · intro y0 y1
      unfold ontimeref12_Form.j0
      repeat' first
      | (with_reducible exact ih0 _ _)
      | (with_reducible exact ih1 _ _)
      | (with_reducible exact LeO.refl _)
      | (with_reducible exact LeO.none _)
      | (with_reducible refine LeO.ite ?_ ?_)
      | (with_reducible refine LeO.bind ?_ (fun _ => ?_))
      | exact ih0 _ _
      | exact ih1 _ _
      | exact LeO.none _
      | refine LeO.ite ?_ ?_
      | refine LeO.bind ?_ (fun _ => ?_)
    · intro y0 y1
      unfold ontimeref12_Form.j1
      repeat' first
      | (with_reducible exact ih0 _ _)
      | (with_reducible exact ih1 _ _)
      | (with_reducible exact LeO.refl _)
      | (with_reducible exact LeO.none _)
      | (with_reducible refine LeO.ite ?_ ?_)
      | (with_reducible refine LeO.bind ?_ (fun _ => ?_))
      | exact ih0 _ _
      | exact ih1 _ _
      | exact LeO.none _
      | refine LeO.ite ?_ ?_
      | refine LeO.bind ?_ (fun _ => ?_)
theorem ontimeref12_Form.mono : ∀ a0 k, LeO (ontimeref12_Form.f k a0) (ontimeref12_Form.f (k + 1) a0) := by
  intro a0 k
  obtain ⟨ih0, ih1⟩ := ontimeref12_Form.mono_l k
  unfold ontimeref12_Form.f
  repeat' first
      | (with_reducible exact ih0 _ _)
      | (with_reducible exact ih1 _ _)
      | (with_reducible exact LeO.refl _)
      | (with_reducible exact LeO.none _)
      | (with_reducible refine LeO.ite ?_ ?_)
      | (with_reducible refine LeO.bind ?_ (fun _ => ?_))
      | exact ih0 _ _
      | exact ih1 _ _
      | exact LeO.none _
      | refine LeO.ite ?_ ?_
      | refine LeO.bind ?_ (fun _ => ?_)
set_option maxHeartbeats 8000000 in
set_option maxRecDepth 100000 in
theorem ontimeref12_Form.calls (k : Nat) (a0 : Int) (r1 : ByteArray) (r2 : Bool) (r3 : Bool) (r4 : Bool) (w : World) (h : ontimeref12_Form.f k a0 = some (r1, r2, r3, r4)) :
    Calls Tryd.prog 119 #[.int .u8 a0] w fun e w' => e = .returned (.tuple #[.string r1, .bool r2, .bool r3, .bool r4]) ∧ Drawn0 w w' := by
  have H : (if a0 ≥ 6 then (ontimeref12_Form.j0 k a0 (decide (a0 ≤ 23))) else (ontimeref12_Form.j0 k a0 false)) = some (r1, r2, r3, r4) := h
  clear h
  have HC2 := Aside0.mk H
  clear H
  go_enter Tryd.func119, Tryd.ntmps119
  go_upto_region 1 with (fail)
  go_cut [11] (fun v11 wc => ∃ (kq : Nat) (x11_1 : Bool), v11 = .bool x11_1 ∧ Aside0 (ontimeref12_Form.j0 kq a0 x11_1 = some (r1, r2, r3, r4)) ∧ Aside0 (kq ≤ k) ∧ Drawn0 w wc)
  case first =>
    have H := HC2.out
    clear HC2
    by_cases c3 : a0 ≥ 6
    · rw [if_pos c3] at H
      have c3b0 : decide (6 ≤ a0) = true := decide_eq_true c3
      clear c3
      (first | rw [c3b0] | (simp only [i64_w, i32_w]; rw [c3b0]) | skip)
      have H' := Aside0.mk H
      clear H
      go_wp2
      go_meet
      case rel => exact ⟨_, (decide (a0 ≤ 23)), (by first | rfl | (simp; done) | (simp [*]; done)), H', ⟨by first | omega | exact Nat.le_refl _⟩, by repeat (first | exact Drawn0.refl _ | apply Drawn0.step)⟩
    · rw [if_neg c3] at H
      have c3b0 : decide (6 ≤ a0) = false := decide_eq_false c3
      clear c3
      (first | rw [c3b0] | (simp only [i64_w, i32_w]; rw [c3b0]) | skip)
      have H' := Aside0.mk H
      clear H
      go_wp2
      go_meet
      case rel => exact ⟨_, (false), (by first | rfl | (simp; done) | (simp [*]; done)), H', ⟨by first | omega | exact Nat.le_refl _⟩, by repeat (first | exact Drawn0.refl _ | apply Drawn0.step)⟩
  case rest =>
    clear HC2
    try clear c1
    try clear p2
    try clear c3
    try clear c3b0
    obtain ⟨kq, x11_1, rfl, HA, HJ1, ⟨mc1, rfl⟩⟩ := hcut
    cases kq with
    | zero => exact absurd HA.out (by simp [ontimeref12_Form.j0])
    | succ kj1 =>
      have H := HA.out
      clear HA
      simp only [ontimeref12_Form.j0] at H
      by_cases c4 : x11_1 = true
      · subst c4
        have H1 : (some ((⟨#[101, 101]⟩ : ByteArray), false, false, true)) = some (r1, r2, r3, r4) := by rw [if_pos rfl] at H; exact H
        clear H
        have H := H1
        clear H1
        simp only [Option.some.injEq, Prod.mk.injEq] at H
        obtain ⟨rfl, rfl, rfl, rfl⟩ := H
        go_wp2
        refine bodyPost_ret (results_list (rs := [.tmp 2, .tmp 3, .tmp 4, .tmp 5]) rfl (by simp) (.tmp (.tmp (.tmp (.tmp .nil))))) rfl ?_
        exact ⟨by first | rfl | (simp; done) | (simp [*]; done), by repeat (first | exact Drawn0.refl _ | apply Drawn0.step)⟩
      · replace c4 := Bool.eq_false_iff.mpr c4
        subst c4
        have H1 : (if a0 = 1 then (some ((⟨#[]⟩ : ByteArray), false, true, true)) else (if a0 = 2 then (some ((⟨#[]⟩ : ByteArray), true, false, true)) else (if a0 = 3 then (some ((⟨#[101]⟩ : ByteArray), true, false, true)) else (if a0 = 4 then (ontimeref12_Form.j1 kj1 a0 (a0 == 4)) else (ontimeref12_Form.j1 kj1 a0 (a0 == 5)))))) = some (r1, r2, r3, r4) := by rw [if_neg (show ¬ (false = true) by decide)] at H; exact H
        clear H
        have H := H1
        clear H1
        by_cases c5 : a0 = 1
        · rw [if_pos c5] at H
          have c5b0 : (a0 == 1) = true := beq_iff_eq.mpr c5
          have c5b1 : (a0 != 1) = false := bne_eq_false_iff_eq.mpr c5
          clear c5
          simp only [Option.some.injEq, Prod.mk.injEq] at H
          obtain ⟨rfl, rfl, rfl, rfl⟩ := H
          go_wp2
          refine bodyPost_ret (results_list (rs := [.tmp 2, .tmp 3, .tmp 4, .tmp 5]) rfl (by simp) (.tmp (.tmp (.tmp (.tmp .nil))))) rfl ?_
          exact ⟨by first | rfl | (simp; done) | (simp [*]; done), by repeat (first | exact Drawn0.refl _ | apply Drawn0.step)⟩
        · rw [if_neg c5] at H
          have c5b0 : (a0 == 1) = false := beq_eq_false_iff_ne.mpr c5
          have c5b1 : (a0 != 1) = true := bne_iff_ne.mpr c5
          by_cases c6 : a0 = 2
          · rw [if_pos c6] at H
            have c6b0 : (a0 == 2) = true := beq_iff_eq.mpr c6
            have c6b1 : (a0 != 2) = false := bne_eq_false_iff_eq.mpr c6
            clear c6
            simp only [Option.some.injEq, Prod.mk.injEq] at H
            obtain ⟨rfl, rfl, rfl, rfl⟩ := H
            go_wp2
            refine bodyPost_ret (results_list (rs := [.tmp 2, .tmp 3, .tmp 4, .tmp 5]) rfl (by simp) (.tmp (.tmp (.tmp (.tmp .nil))))) rfl ?_
            exact ⟨by first | rfl | (simp; done) | (simp [*]; done), by repeat (first | exact Drawn0.refl _ | apply Drawn0.step)⟩
          · rw [if_neg c6] at H
            have c6b0 : (a0 == 2) = false := beq_eq_false_iff_ne.mpr c6
            have c6b1 : (a0 != 2) = true := bne_iff_ne.mpr c6
            by_cases c7 : a0 = 3
            · rw [if_pos c7] at H
              have c7b0 : (a0 == 3) = true := beq_iff_eq.mpr c7
              have c7b1 : (a0 != 3) = false := bne_eq_false_iff_eq.mpr c7
              clear c7
              simp only [Option.some.injEq, Prod.mk.injEq] at H
              obtain ⟨rfl, rfl, rfl, rfl⟩ := H
              go_wp2
              refine bodyPost_ret (results_list (rs := [.tmp 2, .tmp 3, .tmp 4, .tmp 5]) rfl (by simp) (.tmp (.tmp (.tmp (.tmp .nil))))) rfl ?_
              exact ⟨by first | rfl | (simp; done) | (simp [*]; done), by repeat (first | exact Drawn0.refl _ | apply Drawn0.step)⟩
            · rw [if_neg c7] at H
              have c7b0 : (a0 == 3) = false := beq_eq_false_iff_ne.mpr c7
              have c7b1 : (a0 != 3) = true := bne_iff_ne.mpr c7
              have HC8 := Aside0.mk H
              clear H
              go_upto_if 19 with (fail)
              go_cut [19] (fun v19 wc => ∃ (kq : Nat) (x19_7 : Bool), v19 = .bool x19_7 ∧ Aside0 (ontimeref12_Form.j1 kq a0 x19_7 = some (r1, r2, r3, r4)) ∧ Aside0 (kq ≤ kj1) ∧ Drawn0 w wc)
              case first =>
                have H := HC8.out
                clear HC8
                by_cases c9 : a0 = 4
                · rw [if_pos c9] at H
                  have c9b0 : (a0 == 4) = true := beq_iff_eq.mpr c9
                  have c9b1 : (a0 != 4) = false := bne_eq_false_iff_eq.mpr c9
                  clear c9
                  (first | rw [c9b0] | (simp only [i64_w, i32_w]; rw [c9b0]) | skip)
                  have H' := Aside0.mk H
                  clear H
                  go_wp2
                  go_meet
                  case rel => exact ⟨_, ((a0 == 4)), (by first | rfl | (simp; done) | (simp [*]; done)), H', ⟨by have := HJ1.out; first | omega | exact Nat.le_refl _⟩, by repeat (first | exact Drawn0.refl _ | apply Drawn0.step)⟩
                · rw [if_neg c9] at H
                  have c9b0 : (a0 == 4) = false := beq_eq_false_iff_ne.mpr c9
                  have c9b1 : (a0 != 4) = true := bne_iff_ne.mpr c9
                  (first | rw [c9b0] | (simp only [i64_w, i32_w]; rw [c9b0]) | skip)
                  have H' := Aside0.mk H
                  clear H
                  go_wp2
                  go_meet
                  case rel => exact ⟨_, ((a0 == 5)), (by first | rfl | (simp; done) | (simp [*]; done)), H', ⟨by have := HJ1.out; first | omega | exact Nat.le_refl _⟩, by repeat (first | exact Drawn0.refl _ | apply Drawn0.step)⟩
              case rest =>
                clear HC8
                try clear c1
                try clear p2
                try clear c3
                try clear c3b0
                try clear c4
                try clear c5
                try clear c5b0
                try clear c5b1
                try clear c6
                try clear c6b0
                try clear c6b1
                try clear c7
                try clear c7b0
                try clear c7b1
                try clear c9
                try clear c9b0
                try clear c9b1
                try clear p2
                obtain ⟨kq, x19_7, rfl, HA, HJ7, ⟨mc7, rfl⟩⟩ := hcut
                cases kq with
                | zero => exact absurd HA.out (by simp [ontimeref12_Form.j1])
                | succ kj7 =>
                  have H := HA.out
                  clear HA
                  simp only [ontimeref12_Form.j1] at H
                  by_cases c10 : x19_7 = true
                  · subst c10
                    have H1 : (some ((⟨#[101]⟩ : ByteArray), false, false, true)) = some (r1, r2, r3, r4) := by rw [if_pos rfl] at H; exact H
                    clear H
                    have H := H1
                    clear H1
                    simp only [Option.some.injEq, Prod.mk.injEq] at H
                    obtain ⟨rfl, rfl, rfl, rfl⟩ := H
                    go_wp2
                    refine bodyPost_ret (results_list (rs := [.tmp 2, .tmp 3, .tmp 4, .tmp 5]) rfl (by simp) (.tmp (.tmp (.tmp (.tmp .nil))))) rfl ?_
                    exact ⟨by first | rfl | (simp; done) | (simp [*]; done), by repeat (first | exact Drawn0.refl _ | apply Drawn0.step)⟩
                  · replace c10 := Bool.eq_false_iff.mpr c10
                    subst c10
                    have H1 : (if a0 = 40 then (some ((⟨#[112, 101]⟩ : ByteArray), false, false, true)) else (if a0 = 41 then (some ((⟨#[101, 98, 98]⟩ : ByteArray), false, false, true)) else (if a0 = 42 then (some ((⟨#[98]⟩ : ByteArray), true, true, true)) else (if a0 = 43 then (some ((⟨#[101, 98]⟩ : ByteArray), false, true, true)) else (if a0 = 44 then (some ((⟨#[112]⟩ : ByteArray), false, true, true)) else (if a0 = 45 then (some ((⟨#[101]⟩ : ByteArray), false, true, true)) else (if a0 = 46 then (some ((⟨#[98]⟩ : ByteArray), true, false, true)) else (if a0 = 47 then (some ((⟨#[42]⟩ : ByteArray), false, false, true)) else (some ((⟨#[]⟩ : ByteArray), false, false, false)))))))))) = some (r1, r2, r3, r4) := by rw [if_neg (show ¬ (false = true) by decide)] at H; exact H
                    clear H
                    have H := H1
                    clear H1
                    by_cases c11 : a0 = 40
                    · rw [if_pos c11] at H
                      have c11b0 : (a0 == 40) = true := beq_iff_eq.mpr c11
                      have c11b1 : (a0 != 40) = false := bne_eq_false_iff_eq.mpr c11
                      clear c11
                      simp only [Option.some.injEq, Prod.mk.injEq] at H
                      obtain ⟨rfl, rfl, rfl, rfl⟩ := H
                      go_wp2
                      refine bodyPost_ret (results_list (rs := [.tmp 2, .tmp 3, .tmp 4, .tmp 5]) rfl (by simp) (.tmp (.tmp (.tmp (.tmp .nil))))) rfl ?_
                      exact ⟨by first | rfl | (simp; done) | (simp [*]; done), by repeat (first | exact Drawn0.refl _ | apply Drawn0.step)⟩
                    · rw [if_neg c11] at H
                      have c11b0 : (a0 == 40) = false := beq_eq_false_iff_ne.mpr c11
                      have c11b1 : (a0 != 40) = true := bne_iff_ne.mpr c11
                      by_cases c12 : a0 = 41
                      · rw [if_pos c12] at H
                        have c12b0 : (a0 == 41) = true := beq_iff_eq.mpr c12
                        have c12b1 : (a0 != 41) = false := bne_eq_false_iff_eq.mpr c12
                        clear c12
                        simp only [Option.some.injEq, Prod.mk.injEq] at H
                        obtain ⟨rfl, rfl, rfl, rfl⟩ := H
                        go_wp2
                        refine bodyPost_ret (results_list (rs := [.tmp 2, .tmp 3, .tmp 4, .tmp 5]) rfl (by simp) (.tmp (.tmp (.tmp (.tmp .nil))))) rfl ?_
                        exact ⟨by first | rfl | (simp; done) | (simp [*]; done), by repeat (first | exact Drawn0.refl _ | apply Drawn0.step)⟩
                      · rw [if_neg c12] at H
                        have c12b0 : (a0 == 41) = false := beq_eq_false_iff_ne.mpr c12
                        have c12b1 : (a0 != 41) = true := bne_iff_ne.mpr c12
                        by_cases c13 : a0 = 42
                        · rw [if_pos c13] at H
                          have c13b0 : (a0 == 42) = true := beq_iff_eq.mpr c13
                          have c13b1 : (a0 != 42) = false := bne_eq_false_iff_eq.mpr c13
                          clear c13
                          simp only [Option.some.injEq, Prod.mk.injEq] at H
                          obtain ⟨rfl, rfl, rfl, rfl⟩ := H
                          go_wp2
                          refine bodyPost_ret (results_list (rs := [.tmp 2, .tmp 3, .tmp 4, .tmp 5]) rfl (by simp) (.tmp (.tmp (.tmp (.tmp .nil))))) rfl ?_
                          exact ⟨by first | rfl | (simp; done) | (simp [*]; done), by repeat (first | exact Drawn0.refl _ | apply Drawn0.step)⟩
                        · rw [if_neg c13] at H
                          have c13b0 : (a0 == 42) = false := beq_eq_false_iff_ne.mpr c13
                          have c13b1 : (a0 != 42) = true := bne_iff_ne.mpr c13
                          by_cases c14 : a0 = 43
                          · rw [if_pos c14] at H
                            have c14b0 : (a0 == 43) = true := beq_iff_eq.mpr c14
                            have c14b1 : (a0 != 43) = false := bne_eq_false_iff_eq.mpr c14
                            clear c14
                            simp only [Option.some.injEq, Prod.mk.injEq] at H
                            obtain ⟨rfl, rfl, rfl, rfl⟩ := H
                            go_wp2
                            refine bodyPost_ret (results_list (rs := [.tmp 2, .tmp 3, .tmp 4, .tmp 5]) rfl (by simp) (.tmp (.tmp (.tmp (.tmp .nil))))) rfl ?_
                            exact ⟨by first | rfl | (simp; done) | (simp [*]; done), by repeat (first | exact Drawn0.refl _ | apply Drawn0.step)⟩
                          · rw [if_neg c14] at H
                            have c14b0 : (a0 == 43) = false := beq_eq_false_iff_ne.mpr c14
                            have c14b1 : (a0 != 43) = true := bne_iff_ne.mpr c14
                            by_cases c15 : a0 = 44
                            · rw [if_pos c15] at H
                              have c15b0 : (a0 == 44) = true := beq_iff_eq.mpr c15
                              have c15b1 : (a0 != 44) = false := bne_eq_false_iff_eq.mpr c15
                              clear c15
                              simp only [Option.some.injEq, Prod.mk.injEq] at H
                              obtain ⟨rfl, rfl, rfl, rfl⟩ := H
                              go_wp2
                              refine bodyPost_ret (results_list (rs := [.tmp 2, .tmp 3, .tmp 4, .tmp 5]) rfl (by simp) (.tmp (.tmp (.tmp (.tmp .nil))))) rfl ?_
                              exact ⟨by first | rfl | (simp; done) | (simp [*]; done), by repeat (first | exact Drawn0.refl _ | apply Drawn0.step)⟩
                            · rw [if_neg c15] at H
                              have c15b0 : (a0 == 44) = false := beq_eq_false_iff_ne.mpr c15
                              have c15b1 : (a0 != 44) = true := bne_iff_ne.mpr c15
                              by_cases c16 : a0 = 45
                              · rw [if_pos c16] at H
                                have c16b0 : (a0 == 45) = true := beq_iff_eq.mpr c16
                                have c16b1 : (a0 != 45) = false := bne_eq_false_iff_eq.mpr c16
                                clear c16
                                simp only [Option.some.injEq, Prod.mk.injEq] at H
                                obtain ⟨rfl, rfl, rfl, rfl⟩ := H
                                go_wp2
                                refine bodyPost_ret (results_list (rs := [.tmp 2, .tmp 3, .tmp 4, .tmp 5]) rfl (by simp) (.tmp (.tmp (.tmp (.tmp .nil))))) rfl ?_
                                exact ⟨by first | rfl | (simp; done) | (simp [*]; done), by repeat (first | exact Drawn0.refl _ | apply Drawn0.step)⟩
                              · rw [if_neg c16] at H
                                have c16b0 : (a0 == 45) = false := beq_eq_false_iff_ne.mpr c16
                                have c16b1 : (a0 != 45) = true := bne_iff_ne.mpr c16
                                by_cases c17 : a0 = 46
                                · rw [if_pos c17] at H
                                  have c17b0 : (a0 == 46) = true := beq_iff_eq.mpr c17
                                  have c17b1 : (a0 != 46) = false := bne_eq_false_iff_eq.mpr c17
                                  clear c17
                                  simp only [Option.some.injEq, Prod.mk.injEq] at H
                                  obtain ⟨rfl, rfl, rfl, rfl⟩ := H
                                  go_wp2
                                  refine bodyPost_ret (results_list (rs := [.tmp 2, .tmp 3, .tmp 4, .tmp 5]) rfl (by simp) (.tmp (.tmp (.tmp (.tmp .nil))))) rfl ?_
                                  exact ⟨by first | rfl | (simp; done) | (simp [*]; done), by repeat (first | exact Drawn0.refl _ | apply Drawn0.step)⟩
                                · rw [if_neg c17] at H
                                  have c17b0 : (a0 == 46) = false := beq_eq_false_iff_ne.mpr c17
                                  have c17b1 : (a0 != 46) = true := bne_iff_ne.mpr c17
                                  by_cases c18 : a0 = 47
                                  · rw [if_pos c18] at H
                                    have c18b0 : (a0 == 47) = true := beq_iff_eq.mpr c18
                                    have c18b1 : (a0 != 47) = false := bne_eq_false_iff_eq.mpr c18
                                    clear c18
                                    simp only [Option.some.injEq, Prod.mk.injEq] at H
                                    obtain ⟨rfl, rfl, rfl, rfl⟩ := H
                                    go_wp2
                                    refine bodyPost_ret (results_list (rs := [.tmp 2, .tmp 3, .tmp 4, .tmp 5]) rfl (by simp) (.tmp (.tmp (.tmp (.tmp .nil))))) rfl ?_
                                    exact ⟨by first | rfl | (simp; done) | (simp [*]; done), by repeat (first | exact Drawn0.refl _ | apply Drawn0.step)⟩
                                  · rw [if_neg c18] at H
                                    have c18b0 : (a0 == 47) = false := beq_eq_false_iff_ne.mpr c18
                                    have c18b1 : (a0 != 47) = true := bne_iff_ne.mpr c18
                                    simp only [Option.some.injEq, Prod.mk.injEq] at H
                                    obtain ⟨rfl, rfl, rfl, rfl⟩ := H
                                    go_wp2
                                    refine bodyPost_ret (results_list (rs := [.tmp 2, .tmp 3, .tmp 4, .tmp 5]) rfl (by simp) (.tmp (.tmp (.tmp (.tmp .nil))))) rfl ?_
                                    exact ⟨by first | rfl | (simp; done) | (simp [*]; done), by repeat (first | exact Drawn0.refl _ | apply Drawn0.step)⟩

/-! ### ontimeref12_category: function 120 -/
def ontimeref12_category.j0 : Nat → Int → Bool → Option (Int)
  | 0, _, _ => none
  | k + 1, x0, x8 => if x8 = true then (some 101) else (if x0 ≥ 40 then (if x0 ≤ 46 then (some 115) else (some 98)) else (some 98))
def ontimeref12_category.f (k : Nat) (a0 : Int) : Option (Int) := if a0 ≥ 1 then (ontimeref12_category.j0 k a0 (decide (a0 ≤ 23))) else (ontimeref12_category.j0 k a0 false)
theorem ontimeref12_category.mono_l : ∀ k, (∀ y0 y1, LeO (ontimeref12_category.j0 k y0 y1) (ontimeref12_category.j0 (k + 1) y0 y1))
  | 0 => fun _ _ r h => by simp [ontimeref12_category.j0] at h
  | k + 1 => by
    have ih0 := ontimeref12_category.mono_l k
    · intro y0 y1
      unfold ontimeref12_category.j0
      repeat' first
      | (with_reducible exact ih0 _ _)
      | (with_reducible exact LeO.refl _)
      | (with_reducible exact LeO.none _)
      | (with_reducible refine LeO.ite ?_ ?_)
      | (with_reducible refine LeO.bind ?_ (fun _ => ?_))
      | exact ih0 _ _
      | exact LeO.none _
      | refine LeO.ite ?_ ?_
      | refine LeO.bind ?_ (fun _ => ?_)
theorem ontimeref12_category.mono : ∀ a0 k, LeO (ontimeref12_category.f k a0) (ontimeref12_category.f (k + 1) a0) := by
  intro a0 k
  have ih0 := ontimeref12_category.mono_l k
  unfold ontimeref12_category.f
  repeat' first
      | (with_reducible exact ih0 _ _)
      | (with_reducible exact LeO.refl _)
      | (with_reducible exact LeO.none _)
      | (with_reducible refine LeO.ite ?_ ?_)
      | (with_reducible refine LeO.bind ?_ (fun _ => ?_))
      | exact ih0 _ _
      | exact LeO.none _
      | refine LeO.ite ?_ ?_
      | refine LeO.bind ?_ (fun _ => ?_)
set_option maxHeartbeats 8000000 in
set_option maxRecDepth 100000 in
theorem ontimeref12_category.calls (k : Nat) (a0 : Int) (r : Int) (w : World) (h : ontimeref12_category.f k a0 = some r) :
    Calls Tryd.prog 120 #[.int .u8 a0] w fun e w' => e = .returned (.int .u8 r) ∧ Drawn0 w w' := by
  have H : (if a0 ≥ 1 then (ontimeref12_category.j0 k a0 (decide (a0 ≤ 23))) else (ontimeref12_category.j0 k a0 false)) = some r := h
  clear h
  have HC2 := Aside0.mk H
  clear H
  go_enter Tryd.func120, Tryd.ntmps120
  go_upto_region 1 with (fail)
  go_cut [8] (fun v8 wc => ∃ (kq : Nat) (x8_1 : Bool), v8 = .bool x8_1 ∧ Aside0 (ontimeref12_category.j0 kq a0 x8_1 = some r) ∧ Aside0 (kq ≤ k) ∧ Drawn0 w wc)
  case first =>
    have H := HC2.out
    clear HC2
    by_cases c3 : a0 ≥ 1
    · rw [if_pos c3] at H
      have c3b0 : decide (1 ≤ a0) = true := decide_eq_true c3
      clear c3
      (first | rw [c3b0] | (simp only [i64_w, i32_w]; rw [c3b0]) | skip)
      have H' := Aside0.mk H
      clear H
      go_wp2
      go_meet
      case rel => exact ⟨_, (decide (a0 ≤ 23)), (by first | rfl | (simp; done) | (simp [*]; done)), H', ⟨by first | omega | exact Nat.le_refl _⟩, by repeat (first | exact Drawn0.refl _ | apply Drawn0.step)⟩
    · rw [if_neg c3] at H
      have c3b0 : decide (1 ≤ a0) = false := decide_eq_false c3
      clear c3
      (first | rw [c3b0] | (simp only [i64_w, i32_w]; rw [c3b0]) | skip)
      have H' := Aside0.mk H
      clear H
      go_wp2
      go_meet
      case rel => exact ⟨_, (false), (by first | rfl | (simp; done) | (simp [*]; done)), H', ⟨by first | omega | exact Nat.le_refl _⟩, by repeat (first | exact Drawn0.refl _ | apply Drawn0.step)⟩
  case rest =>
    clear HC2
    try clear c1
    try clear p2
    try clear c3
    try clear c3b0
    obtain ⟨kq, x8_1, rfl, HA, HJ1, ⟨mc1, rfl⟩⟩ := hcut
    cases kq with
    | zero => exact absurd HA.out (by simp [ontimeref12_category.j0])
    | succ kj1 =>
      have H := HA.out
      clear HA
      simp only [ontimeref12_category.j0] at H
      by_cases c4 : x8_1 = true
      · subst c4
        have H1 : (some 101) = some r := by rw [if_pos rfl] at H; exact H
        clear H
        have H := H1
        clear H1
        obtain rfl := Option.some.inj H
        go_wp2
        go_ret
        exact ⟨by first | rfl | (simp; done) | (simp [*]; done), by repeat (first | exact Drawn0.refl _ | apply Drawn0.step)⟩
      · replace c4 := Bool.eq_false_iff.mpr c4
        subst c4
        have H1 : (if a0 ≥ 40 then (if a0 ≤ 46 then (some 115) else (some 98)) else (some 98)) = some r := by rw [if_neg (show ¬ (false = true) by decide)] at H; exact H
        clear H
        have H := H1
        clear H1
        by_cases c5 : a0 ≥ 40
        · rw [if_pos c5] at H
          have c5b0 : decide (40 ≤ a0) = true := decide_eq_true c5
          clear c5
          by_cases c6 : a0 ≤ 46
          · rw [if_pos c6] at H
            have c6b0 : decide (a0 ≤ 46) = true := decide_eq_true c6
            clear c6
            obtain rfl := Option.some.inj H
            go_wp2
            go_ret
            exact ⟨by first | rfl | (simp; done) | (simp [*]; done), by repeat (first | exact Drawn0.refl _ | apply Drawn0.step)⟩
          · rw [if_neg c6] at H
            have c6b0 : decide (a0 ≤ 46) = false := decide_eq_false c6
            clear c6
            obtain rfl := Option.some.inj H
            go_wp2
            go_ret
            exact ⟨by first | rfl | (simp; done) | (simp [*]; done), by repeat (first | exact Drawn0.refl _ | apply Drawn0.step)⟩
        · rw [if_neg c5] at H
          have c5b0 : decide (40 ≤ a0) = false := decide_eq_false c5
          clear c5
          obtain rfl := Option.some.inj H
          go_wp2
          go_ret
          exact ⟨by first | rfl | (simp; done) | (simp [*]; done), by repeat (first | exact Drawn0.refl _ | apply Drawn0.step)⟩

/-! ### ontimeref12_bounds: function 121 -/
def ontimeref12_bounds.j0 : Nat → Int → Bool → Option (Int × Int)
  | 0, _, _ => none
  | k + 1, x4, x7 => if x7 = true then (some (1, 1000)) else (if x4 = 44 then (some (0, 7)) else (if x4 = 45 then (some (0, 7)) else (some (0, 0))))
def ontimeref12_bounds.f (k : Nat) (a0 : Int) : Option (Int × Int) := if a0 = 1 then (some (0, 2147483647)) else (if a0 = 42 then (ontimeref12_bounds.j0 k a0 (a0 == 42)) else (ontimeref12_bounds.j0 k a0 (a0 == 43)))
theorem ontimeref12_bounds.mono_l : ∀ k, (∀ y0 y1, LeO (ontimeref12_bounds.j0 k y0 y1) (ontimeref12_bounds.j0 (k + 1) y0 y1))
  | 0 => fun _ _ r h => by simp [ontimeref12_bounds.j0] at h
  | k + 1 => by
    have ih0 := ontimeref12_bounds.mono_l k
    · intro y0 y1
      unfold ontimeref12_bounds.j0
      repeat' first
      | (with_reducible exact ih0 _ _)
      | (with_reducible exact LeO.refl _)
      | (with_reducible exact LeO.none _)
      | (with_reducible refine LeO.ite ?_ ?_)
      | (with_reducible refine LeO.bind ?_ (fun _ => ?_))
      | exact ih0 _ _
      | exact LeO.none _
      | refine LeO.ite ?_ ?_
      | refine LeO.bind ?_ (fun _ => ?_)
theorem ontimeref12_bounds.mono : ∀ a0 k, LeO (ontimeref12_bounds.f k a0) (ontimeref12_bounds.f (k + 1) a0) := by
  intro a0 k
  have ih0 := ontimeref12_bounds.mono_l k
  unfold ontimeref12_bounds.f
  repeat' first
      | (with_reducible exact ih0 _ _)
      | (with_reducible exact LeO.refl _)
      | (with_reducible exact LeO.none _)
      | (with_reducible refine LeO.ite ?_ ?_)
      | (with_reducible refine LeO.bind ?_ (fun _ => ?_))
      | exact ih0 _ _
      | exact LeO.none _
      | refine LeO.ite ?_ ?_
      | refine LeO.bind ?_ (fun _ => ?_)
set_option maxHeartbeats 8000000 in
set_option maxRecDepth 100000 in
theorem ontimeref12_bounds.calls (k : Nat) (a0 : Int) (r1 : Int) (r2 : Int) (w : World) (h : ontimeref12_bounds.f k a0 = some (r1, r2)) :
    Calls Tryd.prog 121 #[.int .u8 a0] w fun e w' => e = .returned (.tuple #[.int .i64 r1, .int .i64 r2]) ∧ Drawn0 w w' := by
  have H : (if a0 = 1 then (some (0, 2147483647)) else (if a0 = 42 then (ontimeref12_bounds.j0 k a0 (a0 == 42)) else (ontimeref12_bounds.j0 k a0 (a0 == 43)))) = some (r1, r2) := h
  clear h
  by_cases c2 : a0 = 1
  · rw [if_pos c2] at H
    have c2b0 : (a0 == 1) = true := beq_iff_eq.mpr c2
    have c2b1 : (a0 != 1) = false := bne_eq_false_iff_eq.mpr c2
    clear c2
    simp only [Option.some.injEq, Prod.mk.injEq] at H
    obtain ⟨rfl, rfl⟩ := H
    go_enter Tryd.func121, Tryd.ntmps121
    go_wp2
    go_ret2
    exact ⟨by first | rfl | (simp; done) | (simp [*]; done), by repeat (first | exact Drawn0.refl _ | apply Drawn0.step)⟩
  · rw [if_neg c2] at H
    have c2b0 : (a0 == 1) = false := beq_eq_false_iff_ne.mpr c2
    have c2b1 : (a0 != 1) = true := bne_iff_ne.mpr c2
    have HC3 := Aside0.mk H
    clear H
    go_enter Tryd.func121, Tryd.ntmps121
    go_upto_if 7 with (fail)
    go_cut [7] (fun v7 wc => ∃ (kq : Nat) (x7_2 : Bool), v7 = .bool x7_2 ∧ Aside0 (ontimeref12_bounds.j0 kq a0 x7_2 = some (r1, r2)) ∧ Aside0 (kq ≤ k) ∧ Drawn0 w wc)
    case first =>
      have H := HC3.out
      clear HC3
      by_cases c4 : a0 = 42
      · rw [if_pos c4] at H
        have c4b0 : (a0 == 42) = true := beq_iff_eq.mpr c4
        have c4b1 : (a0 != 42) = false := bne_eq_false_iff_eq.mpr c4
        clear c4
        (first | rw [c4b0] | (simp only [i64_w, i32_w]; rw [c4b0]) | skip)
        have H' := Aside0.mk H
        clear H
        go_wp2
        go_meet
        case rel => exact ⟨_, ((a0 == 42)), (by first | rfl | (simp; done) | (simp [*]; done)), H', ⟨by first | omega | exact Nat.le_refl _⟩, by repeat (first | exact Drawn0.refl _ | apply Drawn0.step)⟩
      · rw [if_neg c4] at H
        have c4b0 : (a0 == 42) = false := beq_eq_false_iff_ne.mpr c4
        have c4b1 : (a0 != 42) = true := bne_iff_ne.mpr c4
        (first | rw [c4b0] | (simp only [i64_w, i32_w]; rw [c4b0]) | skip)
        have H' := Aside0.mk H
        clear H
        go_wp2
        go_meet
        case rel => exact ⟨_, ((a0 == 43)), (by first | rfl | (simp; done) | (simp [*]; done)), H', ⟨by first | omega | exact Nat.le_refl _⟩, by repeat (first | exact Drawn0.refl _ | apply Drawn0.step)⟩
    case rest =>
      clear HC3
      try clear c1
      try clear c2
      try clear c2b0
      try clear c2b1
      try clear p2
      try clear c4
      try clear c4b0
      try clear c4b1
      obtain ⟨kq, x7_2, rfl, HA, HJ2, ⟨mc2, rfl⟩⟩ := hcut
      cases kq with
      | zero => exact absurd HA.out (by simp [ontimeref12_bounds.j0])
      | succ kj2 =>
        have H := HA.out
        clear HA
        simp only [ontimeref12_bounds.j0] at H
        by_cases c5 : x7_2 = true
        · subst c5
          have H1 : (some (1, 1000)) = some (r1, r2) := by rw [if_pos rfl] at H; exact H
          clear H
          have H := H1
          clear H1
          simp only [Option.some.injEq, Prod.mk.injEq] at H
          obtain ⟨rfl, rfl⟩ := H
          go_wp2
          go_ret2
          exact ⟨by first | rfl | (simp; done) | (simp [*]; done), by repeat (first | exact Drawn0.refl _ | apply Drawn0.step)⟩
        · replace c5 := Bool.eq_false_iff.mpr c5
          subst c5
          have H1 : (if a0 = 44 then (some (0, 7)) else (if a0 = 45 then (some (0, 7)) else (some (0, 0)))) = some (r1, r2) := by rw [if_neg (show ¬ (false = true) by decide)] at H; exact H
          clear H
          have H := H1
          clear H1
          by_cases c6 : a0 = 44
          · rw [if_pos c6] at H
            have c6b0 : (a0 == 44) = true := beq_iff_eq.mpr c6
            have c6b1 : (a0 != 44) = false := bne_eq_false_iff_eq.mpr c6
            clear c6
            simp only [Option.some.injEq, Prod.mk.injEq] at H
            obtain ⟨rfl, rfl⟩ := H
            go_wp2
            go_ret2
            exact ⟨by first | rfl | (simp; done) | (simp [*]; done), by repeat (first | exact Drawn0.refl _ | apply Drawn0.step)⟩
          · rw [if_neg c6] at H
            have c6b0 : (a0 == 44) = false := beq_eq_false_iff_ne.mpr c6
            have c6b1 : (a0 != 44) = true := bne_iff_ne.mpr c6
            by_cases c7 : a0 = 45
            · rw [if_pos c7] at H
              have c7b0 : (a0 == 45) = true := beq_iff_eq.mpr c7
              have c7b1 : (a0 != 45) = false := bne_eq_false_iff_eq.mpr c7
              clear c7
              simp only [Option.some.injEq, Prod.mk.injEq] at H
              obtain ⟨rfl, rfl⟩ := H
              go_wp2
              go_ret2
              exact ⟨by first | rfl | (simp; done) | (simp [*]; done), by repeat (first | exact Drawn0.refl _ | apply Drawn0.step)⟩
            · rw [if_neg c7] at H
              have c7b0 : (a0 == 45) = false := beq_eq_false_iff_ne.mpr c7
              have c7b1 : (a0 != 45) = true := bne_iff_ne.mpr c7
              simp only [Option.some.injEq, Prod.mk.injEq] at H
              obtain ⟨rfl, rfl⟩ := H
              go_wp2
              go_ret2
              exact ⟨by first | rfl | (simp; done) | (simp [*]; done), by repeat (first | exact Drawn0.refl _ | apply Drawn0.step)⟩

end Go.Proofs.YtmdbbfoejmakdaaDoor.P

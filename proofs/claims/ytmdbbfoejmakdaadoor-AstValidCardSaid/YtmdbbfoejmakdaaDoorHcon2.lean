/-
  The contracts of ast.valid, ast.Valid. By this session, out of its own program (wip/gen).
-/
import Derived.Test.YtmdbbfoejmakdaaDoorHcon
namespace Go.Proofs.YtmdbbfoejmakdaaDoor.Ha
open Go.RowKit Go.Proofs.YtmdbbfoejmakdaaDoorW.PrintWords Go.Proofs.YtmdbbfoejmakdaaDoorW.PrintLast Go.Proofs.YtmdbbfoejmakdaaDoorW.PrintMore Go.Proofs.YtmdbbfoejmakdaaDoor.P
set_option linter.unusedVariables false
set_option linter.unusedSimpArgs false
open Hl
/-- Facts on a task's box. -/
theorem box_task (w : World) (t : S65) (A2 : Option Addr) (c2 : Nat) (A3 : Option Addr) (c3 : Nat) (A7 : Option Addr) (c7 : Nat) : ∀ j, (w.alloc (.cells #[.string t.f0, .int .i64 t.f1, .slice A2 t.f2.length c2, .slice A3 t.f3.length c3, .int .u8 t.f4.f0, .int .i64 t.f4.f1, .string t.f4.f2, .slice A7 t.f4.f3.length c7] 65)).cell? ⟨w.heap.size, j, none⟩ = #[Value.string t.f0, .int .i64 t.f1, .slice A2 t.f2.length c2, .slice A3 t.f3.length c3, .int .u8 t.f4.f0, .int .i64 t.f4.f1, .string t.f4.f2, .slice A7 t.f4.f3.length c7][j]? := fun j => box_new w _ _ j
set_option maxHeartbeats 4000000 in
set_option maxRecDepth 100000 in
theorem validN (t : S65) (A2 : Option Addr) (c2 : Nat) (A3 : Option Addr) (c3 : Nat) (A7 : Option Addr) (c7 : Nat) (w : World) (hT : TabOk w) (hok : okT t) (hs : szN t.f4 ≤ 1152921504606846976) (hA : AtT w t A2 c2 A3 c3 A7 c7) :
    Calls Tryd.prog 96 #[tskV t A2 c2 A3 c3 A7 c7] w fun e w' => e = .returned (.bool (tskB t)) ∧ Below w.heap.size w w' := by
  have hb0 : Below w.heap.size w (w.alloc (.cells #[.string t.f0, .int .i64 t.f1, .slice A2 t.f2.length c2, .slice A3 t.f3.length c3, .int .u8 t.f4.f0, .int .i64 t.f4.f1, .string t.f4.f2, .slice A7 t.f4.f3.length c7] 65)) := (Below.refl _ w).alloc (Nat.le_refl _) _
  have HN := Aside0.mk (fun w' (h : Below w.heap.size w w') => name t.f0 w' (hT.below h))
  have HA3 := Aside0.mk (fun w' (h : Below w.heap.size w w') => arraysN t.f3 A3 c3 w' (hT.below h) (hA.below h).C3)
  have HV := Aside0.mk (fun w' (h : Below w.heap.size w w') => containsS 126 #[] #[] enter_val1 (fun s => !nameB s) A2 c2 t.f2 w' (fun x w2 _ hb _ => val1 x w2 ((hT.below h).below hb)) (hA.below h).C2)
  have HBK := Aside0.mk (fun w' (h : Below w.heap.size w w') => isBlock t.f4 A7 c7 w' hok.2.2.2.2 (hT.below h) (hA.below h).body)
  have HDP := Aside0.mk (fun w' (h : Below w.heap.size w w') => depth_n _ t.f4 A7 c7 w' (Nat.le_refl _) hs (hA.below h).body.1 (hA.below h).body.2)
  have HSZ := Aside0.mk (fun w' (h : Below w.heap.size w w') => size_n _ t.f4 A7 c7 w' (Nat.le_refl _) hs (hA.below h).body.1 (hA.below h).body.2)
  have HNE := Aside0.mk (fun w' (h : Below w.heap.size w w') => nest_n _ t.f4 A7 c7 w' (Nat.le_refl _) hs (hA.below h).body.1 (hA.below h).body.2)
  have hc0 := box_task w t A2 c2 A3 c3 A7 c7
  have HB0 := Aside0.mk hb0
  have hl2 : t.f2.length ≤ 9223372036854775807 := hA.C2.2.1
  have E : ∀ b, tskB t = b → tskB t = b := fun _ h => h
  clear hT hok hs hA hb0
  unfold tskB bodyB at E
  rw [any_not] at HV
  go_enter Tryd.func96, Tryd.ntmps96
  go_wp2_with fail
  refine (HN.out _ HB0.out).mono ?_
  rintro e w1 ⟨rfl, hB1⟩
  have hc1 := box_keep hB1 (by simp) hc0
  have HB1 : Aside0 (Below w.heap.size w w1) := ⟨HB0.out.trans (hB1.mono HB0.out.size)⟩
  have hz1 : w.heap.size < w1.heap.size := by have := hB1.size; simp at this; omega
  clear hB1 hc0
  cases hn : nameB t.f0
  · go_wp2
    go_ret
    exact ⟨Hl.bret (by unfold tskB; simp [hn]), HB1.out⟩
  by_cases p2 : t.f1 < 1
  · go_wp2
    go_ret
    exact ⟨Hl.bret (by unfold tskB; simp [hn, p2]), HB1.out⟩
  have D2 := Aside0.mk (decide_eq_false p2)
  by_cases p3 : 1000 < t.f1
  · go_wp2
    go_ret
    exact ⟨Hl.bret (by unfold tskB; simp [hn, p2, p3]), HB1.out⟩
  have D3 := Aside0.mk (decide_eq_false p3)
  by_cases p4 : ¬ t.f2.length ≤ 12
  · have q4 : (12 : Int) < (t.f2.length : Int) := by omega
    go_wp2
    go_ret
    exact ⟨Hl.bret (by unfold tskB; simp [hn, p2, p3, p4]), HB1.out⟩
  replace p4 := Decidable.not_not.1 p4
  have D4 := Aside0.mk (decide_eq_true p4)
  have q4 : ¬ (12 : Int) < (t.f2.length : Int) := by omega
  go_wp2_with fail
  refine (HA3.out _ HB1.out).mono ?_
  rintro e w2 ⟨rfl, hB2⟩
  have hc2 := box_keep hB2 hz1 hc1
  have HB2 : Aside0 (Below w.heap.size w w2) := ⟨HB1.out.trans (hB2.mono HB1.out.size)⟩
  have hz2 : w.heap.size < w2.heap.size := by have := hB2.size; omega
  clear hB2 hc1
  cases ha : arrsB t.f3
  · go_wp2
    go_ret
    exact ⟨Hl.bret (by unfold tskB; simp [hn, p2, p3, p4, ha]), HB2.out⟩
  go_wp2_with fail
  refine (HV.out _ HB2.out).mono ?_
  rintro e w3 ⟨rfl, hB3⟩
  have hc3 := box_keep hB3 hz2 hc2
  have HB3 : Aside0 (Below w.heap.size w w3) := ⟨HB2.out.trans (hB3.mono HB2.out.size)⟩
  have hz3 : w.heap.size < w3.heap.size := by have := hB3.size; omega
  clear hB3 hc2
  cases hv : t.f2.all nameB
  · go_wp2
    go_ret
    exact ⟨Hl.bret (by unfold tskB; rw [hn, D2.out, D3.out, D4.out, ha, hv]; simp), HB3.out⟩
  go_wp2_with fail
  refine (HBK.out _ HB3.out).mono ?_
  rintro e w4 ⟨rfl, hB4⟩
  have hc4 := box_keep hB4 hz3 hc3
  have HB4 : Aside0 (Below w.heap.size w w4) := ⟨HB3.out.trans (hB4.mono HB3.out.size)⟩
  have hz4 : w.heap.size < w4.heap.size := by have := hB4.size; omega
  clear hB4 hc3
  have EQ : tskB t = bodyB t.f4 := by unfold tskB; rw [hn, D2.out, D3.out, D4.out, ha, hv]; simp
  cases hk : isN t.f4 8
  · go_wp2
    go_ret
    exact ⟨Hl.bret (by rw [EQ]; unfold bodyB; simp [hk]), HB4.out⟩
  go_wp2_with fail
  refine (HDP.out _ HB4.out).mono ?_
  rintro e w5 ⟨rfl, hB5⟩
  have hc5 := box_keep hB5 hz4 hc4
  have HB5 : Aside0 (Below w.heap.size w w5) := ⟨HB4.out.trans (hB5.mono HB4.out.size)⟩
  have hz5 : w.heap.size < w5.heap.size := by have := hB5.size; omega
  clear hB5 hc4
  by_cases p5 : ¬ dpN t.f4 ≤ 16
  · have q5 : decide ((dpN t.f4 : Int) ≤ 16) = false := by simp; omega
    go_wp2
    go_ret
    exact ⟨Hl.bret (by rw [EQ]; unfold bodyB; simp [hk, p5]), HB5.out⟩
  replace p5 := Decidable.not_not.1 p5
  have q5 : decide ((dpN t.f4 : Int) ≤ 16) = true := by simp; omega
  go_wp2_with fail
  refine (HSZ.out _ HB5.out).mono ?_
  rintro e w6 ⟨rfl, hB6⟩
  have hc6 := box_keep hB6 hz5 hc5
  have HB6 : Aside0 (Below w.heap.size w w6) := ⟨HB5.out.trans (hB6.mono HB5.out.size)⟩
  have hz6 : w.heap.size < w6.heap.size := by have := hB6.size; omega
  clear hB6 hc5
  by_cases p6 : ¬ szN t.f4 ≤ 400
  · have q6 : decide ((szN t.f4 : Int) ≤ 400) = false := by simp; omega
    go_wp2
    go_ret
    exact ⟨Hl.bret (by rw [EQ]; unfold bodyB; simp [hk, p5, p6]), HB6.out⟩
  replace p6 := Decidable.not_not.1 p6
  have q6 : decide ((szN t.f4 : Int) ≤ 400) = true := by simp; omega
  go_wp2_with fail
  refine (HNE.out _ HB6.out).mono ?_
  rintro e w7 ⟨rfl, hB7⟩
  have HB7 : Aside0 (Below w.heap.size w w7) := ⟨HB6.out.trans (hB7.mono HB6.out.size)⟩
  clear hB7 hc6
  by_cases p7 : neN t.f4 ≤ 4
  · have q7 : decide ((neN t.f4 : Int) ≤ 4) = true := by simp; omega
    go_wp2
    go_ret
    exact ⟨Hl.bret (by rw [EQ]; unfold bodyB; simp [hk, p5, p6, p7]), HB7.out⟩
  · have q7 : decide ((neN t.f4 : Int) ≤ 4) = false := by simp; omega
    go_wp2
    go_ret
    exact ⟨Hl.bret (by rw [EQ]; unfold bodyB; simp [hk, p5, p6, p7]), HB7.out⟩
set_option maxHeartbeats 2000000 in
theorem Val1 (t : S65) (A2 : Option Addr) (c2 : Nat) (A3 : Option Addr) (c3 : Nat) (A7 : Option Addr) (c7 : Nat) (w : World) (hT : TabOk w) (hok : okT t) (hs : szN t.f4 ≤ 1152921504606846976) (hA : AtT w t A2 c2 A3 c3 A7 c7) :
    Calls Tryd.prog 95 #[tskV t A2 c2 A3 c3 A7 c7] w fun e w' => e = .returned (.bool (!tskB t)) ∧ Below w.heap.size w w' := by
  have hb0 : Below w.heap.size w (w.alloc (.cells #[.string t.f0, .int .i64 t.f1, .slice A2 t.f2.length c2, .slice A3 t.f3.length c3, .int .u8 t.f4.f0, .int .i64 t.f4.f1, .string t.f4.f2, .slice A7 t.f4.f3.length c7] 65)) := (Below.refl _ w).alloc (Nat.le_refl _) _
  have HV := Aside0.mk (validN t A2 c2 A3 c3 A7 c7 _ (hT.below hb0) hok hs (hA.below hb0))
  have hc0 := box_task w t A2 c2 A3 c3 A7 c7
  have HB0 := Aside0.mk hb0
  clear hT hok hs hA hb0
  go_enter Tryd.func95, Tryd.ntmps95
  go_wp2_with fail
  refine HV.out.mono ?_
  rintro e w1 ⟨rfl, hB1⟩
  have HB1 : Aside0 (Below w.heap.size w w1) := ⟨HB0.out.trans (hB1.mono HB0.out.size)⟩
  clear hB1
  go_wp2
  go_ret
  exact ⟨rfl, HB1.out⟩
abbrev prgV (sh : List S71) (A0 : Option Addr) (c0 : Nat) (ts : List S65) (A1 : Option Addr) (c1 : Nat) : Value := .agg #[.slice A0 sh.length c0, .slice A1 ts.length c1]
set_option maxHeartbeats 4000000 in
theorem ValidN (sh : List S71) (A0 : Option Addr) (c0 : Nat) (ts : List S65) (A1 : Option Addr) (c1 : Nat) (w : World) (hT : TabOk w) (hok : okP sh ts) (hs : ∀ t ∈ ts, szN t.f4 ≤ 1152921504606846976) (hA : AtP w sh A0 c0 ts A1 c1) :
    Calls Tryd.prog 46 #[prgV sh A0 c0 ts A1 c1] w fun e w' => e = .returned (.bool (prgB sh ts)) ∧ Below w.heap.size w w' := by
  have hb0 : Below w.heap.size w (w.alloc (.cells #[.slice A0 sh.length c0, .slice A1 ts.length c1] 50)) := (Below.refl _ w).alloc (Nat.le_refl _) _
  have HA := Aside0.mk (fun w' (h : Below w.heap.size w w') => arraysN sh A0 c0 w' (hT.below h) (hA.below h).C0)
  have HV := Aside0.mk (fun w' (h : Below w.heap.size w w') => containsT 95 #[] #[] enter_Val1 (fun t => !tskB t) A1 c1 ts w' (fun x A2 c2 A3 c3 A7 c7 w2 hm hb hAt => Val1 x A2 c2 A3 c3 A7 c7 w2 ((hT.below h).below hb) (hok.2 x hm) (hs x hm) hAt) (hA.below h).C1)
  have hc0 := box_new w #[.slice A0 sh.length c0, .slice A1 ts.length c1] 50
  have HB0 := Aside0.mk hb0
  have hl2 : ts.length ≤ 9223372036854775807 := hA.C1.2.1
  clear hT hok hs hA hb0
  rw [any_not] at HV
  go_enter Tryd.func46, Tryd.ntmps46
  go_wp2_with fail
  refine (HA.out _ HB0.out).mono ?_
  rintro e w1 ⟨rfl, hB1⟩
  have hc1 := box_keep hB1 (by simp) hc0
  have HB1 : Aside0 (Below w.heap.size w w1) := ⟨HB0.out.trans (hB1.mono HB0.out.size)⟩
  clear hB1 hc0
  cases ha : arrsB sh
  · go_wp2
    go_ret
    exact ⟨Hl.bret (by unfold prgB; rw [ha]; simp), HB1.out⟩
  by_cases p2 : ¬ ts.length ≤ 8
  · have q2 : decide ((ts.length : Int) ≤ 8) = false := by simp; omega
    go_wp2
    go_ret
    exact ⟨Hl.bret (by unfold prgB; rw [ha, decide_eq_false p2]; simp), HB1.out⟩
  replace p2 := Decidable.not_not.1 p2
  have q2 : decide ((ts.length : Int) ≤ 8) = true := by simp; omega
  go_wp2_with fail
  refine (HV.out _ HB1.out).mono ?_
  rintro e w2 ⟨rfl, hB2⟩
  have HB2 : Aside0 (Below w.heap.size w w2) := ⟨HB1.out.trans (hB2.mono HB1.out.size)⟩
  clear hB2 hc1
  go_wp2
  go_ret
  exact ⟨Hl.bret (by unfold prgB; rw [ha, decide_eq_true p2]; simp), HB2.out⟩
end Go.Proofs.YtmdbbfoejmakdaaDoor.Ha

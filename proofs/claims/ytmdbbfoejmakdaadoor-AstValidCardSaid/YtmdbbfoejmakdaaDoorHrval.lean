/-
  The contracts of the reference's arrays and Valid. By this session, out of its own program (wip/gen).
-/
import Derived.Test.YtmdbbfoejmakdaaDoorHcon
import Derived.Test.YtmdbbfoejmakdaaDoorHsame
namespace Go.Proofs.YtmdbbfoejmakdaaDoor.Ha
open Go.RowKit Go.Proofs.YtmdbbfoejmakdaaDoorW.PrintWords Go.Proofs.YtmdbbfoejmakdaaDoorW.PrintLast Go.Proofs.YtmdbbfoejmakdaaDoorW.PrintMore Go.Proofs.YtmdbbfoejmakdaaDoor.P
set_option linter.unusedVariables false
set_option linter.unusedSimpArgs false
open Hl
theorem nameR (s : ByteArray) (w : World) (hs : s.size ≤ 9223372036854775807) : Calls Tryd.prog 98 #[.string s] w fun e w' => e = .returned (.bool (nameB s)) ∧ Below w.heap.size w w' := by
  obtain ⟨k, hk⟩ := (refName s hs).ex
  exact (ontimeref11_Name.calls k s _ w hk).mono fun e w' h => ⟨h.1, by have := h.2; first | exact this | exact this.below⟩
set_option maxHeartbeats 4000000 in
theorem rArr (l : List S71) (A : Option Addr) (c : Nat) (w : World) (hok : ∀ a ∈ l, okA a) (hC : Kd.C k71 w A l.length l) :
    Calls Tryd.prog 97 #[.slice A l.length c, .int .i64 4] w fun e w' => e = .returned (.bool (arrsB l)) ∧ Below w.heap.size w w' := by
  have HC := Aside0.mk hC
  have HOK := Aside0.mk hok
  clear hC hok
  by_cases h4 : ¬ l.length ≤ 4
  · have q : (4 : Int) < (l.length : Int) := by omega
    have H4 := Aside0.mk (decide_eq_false h4)
    go_enter Tryd.func97, Tryd.ntmps97
    go_wp2
    go_ret
    exact ⟨Hl.bret (by unfold arrsB; rw [H4.out]; rfl), Below.refl _ _⟩
  replace h4 := Decidable.not_not.1 h4
  have q : ¬ (4 : Int) < (l.length : Int) := by omega
  have EQ : Aside0 (arrsB l = l.all arrB) := ⟨by unfold arrsB; rw [decide_eq_true h4]; rfl⟩
  go_enter Tryd.func97, Tryd.ntmps97
  go_wp2
  go_loopw [5] (fun v wr => ∃ k : Nat, k ≤ l.length ∧ v = .int .i64 k ∧ Aside0 (Below w.heap.size w wr ∧ l.all arrB = (l.drop k).all arrB)) (fun v _ => l.length - (intOf v).toNat)
  case atStart => exact ⟨0, Nat.zero_le _, rfl, ⟨⟨Below.refl _ _, rfl⟩⟩⟩
  case round =>
    obtain ⟨k, hk, rfl, HB⟩ := hrel
    by_cases hlt : k < l.length
    · have HD : Aside0 ((l.drop k).all arrB = (arrB l[k] && (l.drop (k + 1)).all arrB)) := ⟨by rw [List.drop_eq_getElem_cons hlt, List.all_cons]⟩
      have hrd : rd_T71 l (k : Int) = l[k] := rdA hlt
      have HN := Aside0.mk (fun w' => nameR l[k].f0 w' (HOK.out _ (List.getElem_mem hlt)).1)
      obtain ⟨ad, rfl, g0, g1⟩ := at_T71 (Kd.C_below HC.out HB.out.1) (k : Int) (by omega) (by omega)
      simp only [Int.toNat_natCast] at g0 g1
      rw [hrd] at g0 g1
      generalize l[k] = x at *
      have G1 := Aside0.mk g1
      have ERR : Aside0 (arrB x = false → arrsB l = false) := ⟨fun h => by rw [EQ.out, HB.out.2, HD.out, h]; rfl⟩
      clear hrd g1
      go_wp2_with fail
      refine (HN.out _).mono ?_
      rintro e w1 ⟨rfl, hB1⟩
      have g1 := pw_cell_below hB1 G1.out
      have HB1 : Aside0 (Below w.heap.size w w1) := ⟨HB.out.1.trans (hB1.mono HB.out.1.size)⟩
      clear hB1 g0
      cases hn : nameB x.f0
      · go_wp2
        go_ret
        exact ⟨Hl.bret (ERR.out (by unfold arrB; rw [hn]; rfl)).symm, HB1.out⟩
      by_cases p2 : x.f1 < 1
      · have P2 := Aside0.mk (decide_eq_true p2)
        go_wp2
        go_ret
        exact ⟨Hl.bret (ERR.out (by unfold arrB; rw [hn, P2.out]; rfl)).symm, HB1.out⟩
      have P2 := Aside0.mk (decide_eq_false p2)
      by_cases p3 : 32 < x.f1
      · have P3 := Aside0.mk (decide_eq_true p3)
        go_wp2
        go_ret
        exact ⟨Hl.bret (ERR.out (by unfold arrB; rw [hn, P2.out, P3.out]; rfl)).symm, HB1.out⟩
      have HNX : Aside0 (l.all arrB = (l.drop (k + 1)).all arrB) := ⟨by rw [HB.out.2, HD.out]; unfold arrB; rw [hn, P2.out, decide_eq_false p3]; rfl⟩
      go_wp2
      go_roundw
      case rel => exact ⟨k + 1, hlt, by go_num, ⟨⟨HB1.out, HNX.out⟩⟩⟩
      case measure => simp [intOf]; omega
    · go_wp2
      go_ret
      exact ⟨Hl.bret (by rw [EQ.out, HB.out.2, List.drop_of_length_le (by omega)]; rfl), HB.out.1⟩
theorem rBlockN (x : Nd) (A : Option Addr) (c : Nat) (w : World) (hok : okN x) (hs : szN x ≤ 1152921504606846976) (hA : At w x A c) : Calls Tryd.prog 28 #[nodeV x A c] w fun e w' => e = .returned (.bool (isN x 8)) ∧ Below w.heap.size w w' := by
  obtain ⟨k, hk⟩ := (refBlock x hs hok).ex
  exact ontimeref12_Block.calls k x.f0 x.f1 x.f2 A c x.f3 _ w hA.1 hA.2 hk
theorem rDepthN (x : Nd) (A : Option Addr) (c : Nat) (w : World) (hs : szN x ≤ 1152921504606846976) (hA : At w x A c) : Calls Tryd.prog 32 #[nodeV x A c] w fun e w' => e = .returned (.int .i64 (dpN x)) ∧ Below w.heap.size w w' := by
  obtain ⟨k, hk⟩ := (refDepth _ x (Nat.le_refl _) hs).ex
  exact ontimeref12_Depth.calls k x.f0 x.f1 x.f2 A c x.f3 _ w hA.1 hA.2 hk
theorem rSizeN (x : Nd) (A : Option Addr) (c : Nat) (w : World) (hs : szN x ≤ 1152921504606846976) (hA : At w x A c) : Calls Tryd.prog 30 #[nodeV x A c] w fun e w' => e = .returned (.int .i64 (szN x)) ∧ Below w.heap.size w w' := by
  obtain ⟨k, hk⟩ := (refSize _ x (Nat.le_refl _) hs).ex
  exact ontimeref12_Size.calls k x.f0 x.f1 x.f2 A c x.f3 _ w hA.1 hA.2 hk
theorem rNestN (x : Nd) (A : Option Addr) (c : Nat) (w : World) (hs : szN x ≤ 1152921504606846976) (hA : At w x A c) : Calls Tryd.prog 34 #[nodeV x A c] w fun e w' => e = .returned (.int .i64 (neN x)) ∧ Below w.heap.size w w' := by
  obtain ⟨k, hk⟩ := (refNest _ x (Nat.le_refl _) hs).ex
  exact ontimeref12_Nest.calls k x.f0 x.f1 x.f2 A c x.f3 _ w hA.1 hA.2 hk
set_option maxHeartbeats 8000000 in
set_option maxRecDepth 100000 in
theorem rValidN {sh : List S71} {A0 : Option Addr} {c0 : Nat} {ts : List S65} {A1 : Option Addr} {c1 : Nat} {w : World} (hok : okP sh ts) (hs : ∀ t ∈ ts, szN t.f4 ≤ 1152921504606846976) (hA : AtP w sh A0 c0 ts A1 c1) :
    Calls Tryd.prog 47 #[.agg #[.slice A0 sh.length c0, .slice A1 ts.length c1]] w fun e w' => e = .returned (.bool (prgB sh ts)) ∧ Below w.heap.size w w' := by
  have hb0 : Below w.heap.size w (w.alloc (.cells #[.slice A0 sh.length c0, .slice A1 ts.length c1] 50)) := (Below.refl _ w).alloc (Nat.le_refl _) _
  have HAR := Aside0.mk (fun w' (h : Below w.heap.size w w') => rArr sh A0 c0 w' hok.1 (hA.below h).C0)
  have hc0 := box_new w #[.slice A0 sh.length c0, .slice A1 ts.length c1] 50
  have HB0 := Aside0.mk hb0
  have HPA := Aside0.mk hA
  have HOK := Aside0.mk hok
  have HSZ := Aside0.mk hs
  have hl2 : ts.length ≤ 9223372036854775807 := hA.C1.2.1
  clear hok hs hA hb0
  go_enter Tryd.func47, Tryd.ntmps47
  go_wp2_with fail
  refine (HAR.out _ HB0.out).mono ?_
  rintro e w1 ⟨rfl, hB1⟩
  have hc1 := box_keep hB1 (by simp) hc0
  have HB1 : Aside0 (Below w.heap.size w w1) := ⟨HB0.out.trans (hB1.mono HB0.out.size)⟩
  have hz1 : w.heap.size < w1.heap.size := by have := hB1.size; simp at this; omega
  clear hB1 hc0
  cases ha : arrsB sh
  · go_wp2
    go_ret
    exact ⟨Hl.bret (by unfold prgB; rw [ha]; rfl), HB1.out⟩
  by_cases p8 : ¬ ts.length ≤ 8
  · have q8 : (8 : Int) < (ts.length : Int) := by omega
    have P8 := Aside0.mk (decide_eq_false p8)
    go_wp2
    go_ret
    exact ⟨Hl.bret (by unfold prgB; rw [ha, P8.out]; rfl), HB1.out⟩
  replace p8 := Decidable.not_not.1 p8
  have q8 : ¬ (8 : Int) < (ts.length : Int) := by omega
  have EQ : Aside0 (prgB sh ts = ts.all tskB) := ⟨by unfold prgB; rw [ha, decide_eq_true p8]; rfl⟩
  have HC1 := Aside0.mk hc1
  have HZ1 := Aside0.mk hz1
  have H8 := Aside0.mk p8
  go_wp2
  clear hc1 q8
  go_loopw [3, 4, 5] (fun v _ _ wr => ∃ k : Nat, k ≤ ts.length ∧ v = .int .i64 k ∧ Aside0 (Below w1.heap.size w1 wr ∧ ts.all tskB = (ts.drop k).all tskB)) (fun v _ _ _ => ts.length - (intOf v).toNat)
  case atStart => exact ⟨0, Nat.zero_le _, rfl, ⟨⟨Below.refl _ _, rfl⟩⟩⟩
  case round =>
    obtain ⟨k, hk, rfl, HB⟩ := hrel
    have hc1 := box_keep HB.out.1 hz1 HC1.out
    have HBW : Aside0 (Below w.heap.size w wr) := ⟨HB1.out.trans (HB.out.1.mono HB1.out.size)⟩
    have hl8 := H8.out
    by_cases hlt : k < ts.length
    · have HD : Aside0 ((ts.drop k).all tskB = (tskB ts[k] && (ts.drop (k + 1)).all tskB)) := ⟨by rw [List.drop_eq_getElem_cons hlt, List.all_cons]⟩
      have hrx : rd_T65 ts (k : Int) = ts[k] := rdT hlt
      have HOX := Aside0.mk (HOK.out.2 _ (List.getElem_mem hlt))
      have HSX := Aside0.mk (HSZ.out _ (List.getElem_mem hlt))
      obtain ⟨ad, X2, x2, X3, x3, X7, x7, rfl, g0, g1, g2, g3, g4, g5, g6, g7, l2, C2, l3, C3, l7, C7⟩ := at_T65 (HPA.out.below HBW.out).C1 (k : Int) (by omega) (by omega)
      simp only [Int.toNat_natCast] at g0 g1 g2 g3 g4 g5 g6 g7
      rw [hrx] at g0 g1 g2 g3 g4 g5 g6 g7 l2 C2 l3 C3 l7 C7
      generalize ts[k] = x at *
      have HX : Aside0 (AtT _ x X2 x2 X3 x3 X7 x7) := ⟨⟨l2, C2, l3, C3, C7, l7⟩⟩
      have ERR : Aside0 (tskB x = false → prgB sh ts = false) := ⟨fun h => by rw [EQ.out, HB.out.2, HD.out, h]; rfl⟩
      have HNA := Aside0.mk (fun w' => nameR x.f0 w' HOX.out.1)
      have HAA := Aside0.mk (fun w' (h : Below wr.heap.size wr w') => rArr x.f3 X3 x3 w' HOX.out.2.2.2.1 (HX.out.below h).C3)
      have HBL := Aside0.mk (fun w' (h : Below wr.heap.size wr w') => rBlockN x.f4 X7 x7 w' HOX.out.2.2.2.2 HSX.out (HX.out.below h).body)
      have HDP := Aside0.mk (fun w' (h : Below wr.heap.size wr w') => rDepthN x.f4 X7 x7 w' HSX.out (HX.out.below h).body)
      have HSI := Aside0.mk (fun w' (h : Below wr.heap.size wr w') => rSizeN x.f4 X7 x7 w' HSX.out (HX.out.below h).body)
      have HNE := Aside0.mk (fun w' (h : Below wr.heap.size wr w') => rNestN x.f4 X7 x7 w' HSX.out (HX.out.below h).body)
      have hx0 := box_new wr (tskC x X2 x2 X3 x3 X7 x7) 65
      have HWW : Aside0 (∀ w', Below wr.heap.size wr w' → Below w.heap.size w w') := ⟨fun w' h => HBW.out.trans (h.mono HBW.out.size)⟩
      have hl2x : x.f2.length ≤ 9223372036854775807 := C2.2.1
      clear l2 C2 l3 C3 C7 l7 hrx
      go_wp2_with fail
      refine (HNA.out _).mono ?_
      rintro e w2 ⟨rfl, hB2⟩
      have hx2 := box_keep hB2 (by simp) hx0
      have HB2 : Aside0 (Below wr.heap.size wr w2) := ⟨((Below.refl _ wr).alloc (Nat.le_refl _) _).trans (hB2.mono (by simp))⟩
      have hz2 : wr.heap.size < w2.heap.size := by have := hB2.size; simp at this; omega
      clear hB2 hx0 g0 g1 g2 g3 g4 g5 g6 g7 hc1
      cases hn : nameB x.f0
      · go_wp2
        go_ret
        exact ⟨Hl.bret (ERR.out (by unfold tskB; rw [hn]; rfl)).symm, HWW.out _ HB2.out⟩
      by_cases p2 : x.f1 < 1
      · have P2 := Aside0.mk (decide_eq_true p2)
        go_wp2
        go_ret
        exact ⟨Hl.bret (ERR.out (by unfold tskB; rw [hn, P2.out]; rfl)).symm, HWW.out _ HB2.out⟩
      have P2 := Aside0.mk (decide_eq_false p2)
      by_cases p3 : 1000 < x.f1
      · have P3 := Aside0.mk (decide_eq_true p3)
        go_wp2
        go_ret
        exact ⟨Hl.bret (ERR.out (by unfold tskB; rw [hn, P2.out, P3.out]; rfl)).symm, HWW.out _ HB2.out⟩
      have P3 := Aside0.mk (decide_eq_false p3)
      by_cases p4 : ¬ x.f2.length ≤ 12
      · have q4 : (12 : Int) < (x.f2.length : Int) := by omega
        have P4 := Aside0.mk (decide_eq_false p4)
        go_wp2
        go_ret
        exact ⟨Hl.bret (ERR.out (by unfold tskB; rw [hn, P2.out, P3.out, P4.out]; rfl)).symm, HWW.out _ HB2.out⟩
      replace p4 := Decidable.not_not.1 p4
      have q4 : ¬ (12 : Int) < (x.f2.length : Int) := by omega
      have P4 := Aside0.mk (decide_eq_true p4)
      have P5 := Aside0.mk p4
      go_wp2_with fail
      refine (HAA.out _ HB2.out).mono ?_
      rintro e w3 ⟨rfl, hB3⟩
      have hx3 := box_keep hB3 hz2 hx2
      have HB3 : Aside0 (Below wr.heap.size wr w3) := ⟨HB2.out.trans (hB3.mono HB2.out.size)⟩
      have hz3 : wr.heap.size < w3.heap.size := by have := hB3.size; omega
      clear hB3 hx2
      cases hr : arrsB x.f3
      · go_wp2
        go_ret
        exact ⟨Hl.bret (ERR.out (by unfold tskB; rw [hn, P2.out, P3.out, P4.out, hr]; rfl)).symm, HWW.out _ HB3.out⟩
      have EQX : Aside0 (tskB x = (x.f2.all nameB && bodyB x.f4)) := ⟨by unfold tskB; rw [hn, P2.out, P3.out, P4.out, hr]; rfl⟩
      have HX3 := Aside0.mk hx3
      go_wp2
      clear hx3
      generalize hwq : wr = wq at *
      go_loopw [5] (fun v wz => ∃ m : Nat, m ≤ x.f2.length ∧ v = .int .i64 m ∧ Aside0 (Below w3.heap.size w3 wz ∧ x.f2.all nameB = (x.f2.drop m).all nameB)) (fun v _ => x.f2.length - (intOf v).toNat)
      case atStart => exact ⟨0, Nat.zero_le _, rfl, ⟨⟨Below.refl _ _, rfl⟩⟩⟩
      case round =>
        obtain ⟨m, hm, rfl, HZ⟩ := hrel
        have hx9 := box_keep HZ.out.1 hz3 HX3.out
        have HBZ : Aside0 (Below wq.heap.size wq wr) := ⟨HB3.out.trans (HZ.out.1.mono HB3.out.size)⟩
        have hl22 := P5.out
        by_cases hlm : m < x.f2.length
        · have HDM : Aside0 ((x.f2.drop m).all nameB = (nameB x.f2[m] && (x.f2.drop (m + 1)).all nameB)) := ⟨by rw [List.drop_eq_getElem_cons hlm, List.all_cons]⟩
          have HNM := Aside0.mk (fun w' => nameR x.f2[m] w' (HOX.out.2.2.1 _ (List.getElem_mem hlm)))
          obtain ⟨pa, rfl, gs⟩ := Kd.at_string (HX.out.below HBZ.out).C2 (m : Int) (by omega) (by omega)
          simp only [Int.toNat_natCast] at gs
          rw [rdS hlm] at gs
          generalize x.f2[m] = sx at *
          go_wp2_with fail
          refine (HNM.out _).mono ?_
          rintro e w5 ⟨rfl, hB5⟩
          have HB5 := Aside0.mk hB5
          clear hB5 gs
          cases he : nameB sx
          · go_wp2
            go_ret
            exact ⟨Hl.bret (ERR.out (by rw [EQX.out, HZ.out.2, HDM.out, he]; rfl)).symm, HWW.out _ (HBZ.out.trans (HB5.out.mono HBZ.out.size))⟩
          · go_wp2
            go_roundw
            case rel => exact ⟨m + 1, hlm, by go_num, ⟨⟨HZ.out.1.trans (HB5.out.mono HZ.out.1.size), by rw [HZ.out.2, HDM.out, he]; rfl⟩⟩⟩
            case measure => simp [intOf]; omega
        · have EQY : Aside0 (tskB x = bodyB x.f4) := ⟨by rw [EQX.out, HZ.out.2, List.drop_of_length_le (by omega)]; rfl⟩
          have hz9 := Nat.lt_of_lt_of_le hz3 HZ.out.1.size
          go_wp2_with fail
          refine (HBL.out _ HBZ.out).mono ?_
          rintro e w6 ⟨rfl, hB6⟩
          have hx6 := box_keep hB6 hz9 hx9
          have HB6 : Aside0 (Below wq.heap.size wq w6) := ⟨HBZ.out.trans (hB6.mono HBZ.out.size)⟩
          have hz6 := Nat.lt_of_lt_of_le hz9 hB6.size
          clear hB6 hx9
          cases h1 : isN x.f4 8
          · go_wp2
            go_ret
            exact ⟨Hl.bret (ERR.out (by rw [EQY.out]; unfold bodyB; rw [h1]; rfl)).symm, HWW.out _ HB6.out⟩
          go_wp2_with fail
          refine (HDP.out _ HB6.out).mono ?_
          rintro e w7 ⟨rfl, hB7⟩
          have hx7 := box_keep hB7 hz6 hx6
          have HB7 : Aside0 (Below wq.heap.size wq w7) := ⟨HB6.out.trans (hB7.mono HB6.out.size)⟩
          have hz7 := Nat.lt_of_lt_of_le hz6 hB7.size
          clear hB7 hx6
          by_cases r1 : ¬ dpN x.f4 ≤ 16
          · have s1 : (16 : Int) < (dpN x.f4 : Int) := by omega
            have R1 := Aside0.mk (decide_eq_false r1)
            go_wp2
            go_ret
            exact ⟨Hl.bret (ERR.out (by rw [EQY.out]; unfold bodyB; rw [h1, R1.out]; rfl)).symm, HWW.out _ HB7.out⟩
          replace r1 := Decidable.not_not.1 r1
          have s1 : ¬ (16 : Int) < (dpN x.f4 : Int) := by omega
          have R1 := Aside0.mk (decide_eq_true r1)
          go_wp2_with fail
          refine (HSI.out _ HB7.out).mono ?_
          rintro e w8 ⟨rfl, hB8⟩
          have hx8 := box_keep hB8 hz7 hx7
          have HB8 : Aside0 (Below wq.heap.size wq w8) := ⟨HB7.out.trans (hB8.mono HB7.out.size)⟩
          clear hB8 hx7
          by_cases r2 : ¬ szN x.f4 ≤ 400
          · have s2 : (400 : Int) < (szN x.f4 : Int) := by omega
            have R2 := Aside0.mk (decide_eq_false r2)
            go_wp2
            go_ret
            exact ⟨Hl.bret (ERR.out (by rw [EQY.out]; unfold bodyB; rw [h1, R1.out, R2.out]; rfl)).symm, HWW.out _ HB8.out⟩
          replace r2 := Decidable.not_not.1 r2
          have s2 : ¬ (400 : Int) < (szN x.f4 : Int) := by omega
          have R2 := Aside0.mk (decide_eq_true r2)
          go_wp2_with fail
          refine (HNE.out _ HB8.out).mono ?_
          rintro e w9 ⟨rfl, hB9⟩
          have HB9 : Aside0 (Below wq.heap.size wq w9) := ⟨HB8.out.trans (hB9.mono HB8.out.size)⟩
          clear hB9 hx8
          by_cases r3 : ¬ neN x.f4 ≤ 4
          · have s3 : (4 : Int) < (neN x.f4 : Int) := by omega
            have R3 := Aside0.mk (decide_eq_false r3)
            go_wp2
            go_ret
            exact ⟨Hl.bret (ERR.out (by rw [EQY.out]; unfold bodyB; rw [h1, R1.out, R2.out, R3.out]; rfl)).symm, HWW.out _ HB9.out⟩
          replace r3 := Decidable.not_not.1 r3
          have s3 : ¬ (4 : Int) < (neN x.f4 : Int) := by omega
          have HNX : Aside0 (Below w1.heap.size w1 w9 ∧ ts.all tskB = (ts.drop (k + 1)).all tskB) := ⟨⟨HB.out.1.trans (HB9.out.mono HB.out.1.size), by rw [HB.out.2, HD.out, EQY.out]; unfold bodyB; rw [h1, R1.out, R2.out, decide_eq_true r3]; rfl⟩⟩
          go_wp2
          refine ⟨⟨k + 1, hlt, by go_num, HNX⟩, ?_⟩
          simp [intOf]; omega
    · go_wp2
      go_ret
      exact ⟨Hl.bret (by rw [EQ.out, HB.out.2, List.drop_of_length_le (by omega)]; rfl), HBW.out⟩
end Go.Proofs.YtmdbbfoejmakdaaDoor.Ha

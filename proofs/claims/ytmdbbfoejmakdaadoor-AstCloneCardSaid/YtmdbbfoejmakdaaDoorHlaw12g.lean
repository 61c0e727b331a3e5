/-
  The law AstClone, walked: it returns true. By this session, out of its own program (wip/gen).
-/
import Derived.Test.YtmdbbfoejmakdaaDoorHawake
import Derived.Test.YtmdbbfoejmakdaaDoorHchg
import Derived.Test.YtmdbbfoejmakdaaDoorHeq
import Derived.Test.YtmdbbfoejmakdaaDoorHbig
import Derived.Test.YtmdbbfoejmakdaaDoorHpure
import Derived.Test.YtmdbbfoejmakdaaDoorPx8c
namespace Go.Proofs.YtmdbbfoejmakdaaDoor.Ha
open Go.RowKit Go.Shelf Go.Proofs.YtmdbbfoejmakdaaDoorW.PrintWords Go.Proofs.YtmdbbfoejmakdaaDoorW.PrintLast Go.Proofs.YtmdbbfoejmakdaaDoorW.PrintMore Go.Proofs.YtmdbbfoejmakdaaDoor.P
set_option linter.unusedVariables false
set_option linter.unusedSimpArgs false
open Hl
theorem nd_eta (y : Nd) : (⟨y.f0, y.f1, y.f2, y.f3⟩ : Nd) = y := by cases y; rfl
theorem refCopy : ∀ (n : Nat) (x : Nd), SizeOf.sizeOf x ≤ n → szN x ≤ 1000000 → Ev fun k => ontimeref12_Copy.f k x.f0 x.f1 x.f2 x.f3 = some (x.f0, x.f1, x.f2, x.f3) := by
  intro n
  induction n with
  | zero => intro x hn; exact absurd hn (by cases x; simp)
  | succ n ih =>
    intro x hn hs
    have hlen : x.f3.length ≤ 1000000 := len_le (szN_eq x) (szL_len x.f3) hs
    obtain ⟨r, rfl, h⟩ := ev_loop (fun r => r = (x.f0, x.f1, x.f2, x.f3)) x.f3.length (fun k i => ontimeref12_Copy.l0 k (i : Int) x.f0 x.f1 x.f2 x.f3 x.f0 x.f1 x.f2 (x.f3.take i)) (fun _ => True)
      (fun _ => ⟨_, rfl, Ev.all fun k => by simp only [ontimeref12_Copy.l0]; rw [if_neg (by omega), List.take_length]⟩)
      (fun i hi _ => Or.inr ⟨trivial, by
        have hm := List.getElem_mem hi
        have hc := ih x.f3[i] (so_le (kid_lt hm) hn) (len_le (szN_eq x) (szL_mem hm) hs)
        have htl : (x.f3.take i).length = i := by rw [List.length_take]; omega
        refine hc.mono fun k hk => ?_
        simp only [ontimeref12_Copy.l0]
        rw [if_pos (by omega), if_pos (by omega), rd_get hi, hk]
        simp only [Option.bind_some]
        have e : ((i : Int) + 1) = ((i + 1 : Nat) : Int) := by omega
        rw [if_pos (by omega), w64 (by omega) (by omega), List.take_succ_eq_append_getElem hi, e, nd_eta]⟩)
      trivial
    exact Ev.succ (h.mono fun k hk => by simp only [ontimeref12_Copy.f]; exact hk)
set_option maxHeartbeats 4000000 in
set_option maxRecDepth 100000 in
theorem lawClone (x : Nd) (A : Option Addr) (c : Nat) (w : World) (hT : TabOk w) (hnm : nmOk 900000000000000 x) (hA : At w x A c) : Calls Tryd.prog 9 #[nodeV x A c] w fun e w' => e = .returned (.bool true) ∧ Below w.heap.size w w' := by
  have HW := Aside0.mk (awake (w.alloc (.cells #[.int .u8 x.f0, .int .i64 x.f1, .string x.f2, .slice A x.f3.length c] 24)) (hT.below ((Below.refl _ w).alloc (Nat.le_refl _) _)))
  have HC0 := Aside0.mk (box_new w (#[.int .u8 x.f0, .int .i64 x.f1, .string x.f2, .slice A x.f3.length c]) 24)
  have HA := Aside0.mk hA
  have hz0 : w.heap.size < (w.alloc (.cells #[.int .u8 x.f0, .int .i64 x.f1, .string x.f2, .slice A x.f3.length c] 24)).heap.size := by simp
  rcases big_ok x with hb | ⟨hb, hs, hd⟩
  · have HB := Aside0.mk (fun w' (h : Below w.heap.size w w') => big1 hb (hA.below h))
    clear hb hA hT
    go_enter Tryd.func9, Tryd.ntmps9
    go_wp2_with fail
    refine HW.out.mono ?_
    rintro e w1 ⟨rfl, hB1⟩
    have hc1 := box_keep hB1 hz0 HC0.out
    have HU1 : Aside0 (Below w.heap.size w w1) := ⟨((Below.refl _ w).alloc (Nat.le_refl _) _).trans (hB1.mono (by simp))⟩
    have hz1 : w.heap.size < w1.heap.size := by have := hB1.size; omega
    clear hB1
    go_wp2_with fail
    refine (HB.out _ HU1.out).mono ?_
    rintro e w2 ⟨rfl, hB2⟩
    have hc2 := box_keep hB2 hz1 hc1
    have HC2 := Aside0.mk hc2
    have HU2 : Aside0 (Below w.heap.size w w2) := ⟨HU1.out.trans (hB2.mono HU1.out.size)⟩
    have hz2 : w.heap.size < w2.heap.size := by have := hB2.size; omega
    clear hB2 hc1
    go_wp2
    go_ret
    exact ⟨rfl, HU2.out⟩
  · have HB := Aside0.mk (fun w' (h : Below w.heap.size w w') => big0 hb (hA.below h))
    have hs6 : szN x ≤ 1000000 := Nat.le_trans hs (by decide)
    have HP : Aside0 (∀ w', Below w.heap.size w w' → Calls Tryd.prog 42 #[nodeV x A c] w' fun e w'' => ∃ v3_ : Value, e = .returned (.agg #[.int .u8 x.f0, .int .i64 x.f1, .string x.f2, v3_]) ∧ Kd.R k24 24 w'' w'.heap.size (fun _ => True) v3_ x.f3 ∧ Below w'.heap.size w' w'') := ⟨fun w' h => by
      obtain ⟨k, hk⟩ := (refCopy _ x (Nat.le_refl _) hs6).ex
      exact ontimeref12_Copy.calls k x.f0 x.f1 x.f2 A c x.f3 _ _ _ _ w' (hA.below h).1 (hA.below h).2 hk⟩
    have HS := Aside0.mk hs6
    have HS5 := Aside0.mk hs
    have HNM := Aside0.mk hnm
    clear hb hA hT hs hs6 hd
    go_enter Tryd.func9, Tryd.ntmps9
    go_wp2_with fail
    refine HW.out.mono ?_
    rintro e w1 ⟨rfl, hB1⟩
    have hc1 := box_keep hB1 hz0 HC0.out
    have HU1 : Aside0 (Below w.heap.size w w1) := ⟨((Below.refl _ w).alloc (Nat.le_refl _) _).trans (hB1.mono (by simp))⟩
    have hz1 : w.heap.size < w1.heap.size := by have := hB1.size; omega
    clear hB1
    go_wp2_with fail
    refine (HB.out _ HU1.out).mono ?_
    rintro e w2 ⟨rfl, hB2⟩
    have hc2 := box_keep hB2 hz1 hc1
    have HC2 := Aside0.mk hc2
    have HU2 : Aside0 (Below w.heap.size w w2) := ⟨HU1.out.trans (hB2.mono HU1.out.size)⟩
    have hz2 : w.heap.size < w2.heap.size := by have := hB2.size; omega
    clear hB2 hc1
    go_wp2_with fail
    refine (HP.out _ HU2.out).mono ?_
    rintro e w3 ⟨v3, rfl, hR3, hB3⟩
    obtain ⟨A3, c3, rfl⟩ := Kd.R_slice hR3
    have hAt3 : At w3 x A3 c3 := by
      obtain ⟨A', c', e, hl, hC⟩ := Kd.R_reads hR3
      simp only [Value.slice.injEq, true_and] at e
      obtain ⟨rfl, rfl⟩ := e
      exact ⟨hC, hl⟩
    have HR3 := Aside0.mk hR3
    have HAt3 := Aside0.mk hAt3
    have HB3 := Aside0.mk hB3
    have hcn3 := box_new w3 #[.int .u8 x.f0, .int .i64 x.f1, .string x.f2, .slice A3 x.f3.length c3] 24
    clear hR3 hAt3 hB3 hc2
    go_wp2_with fail
    refine (clone_n _ x A3 c3 _ (Nat.le_refl _) HS.out (HAt3.out.below ((Below.refl _ w3).alloc (Nat.le_refl _) (.cells #[.int .u8 x.f0, .int .i64 x.f1, .string x.f2, .slice A3 x.f3.length c3] 24)))).mono ?_
    rintro e w4 ⟨v4, rfl, hR4, hB4⟩
    obtain ⟨A4, c4, rfl⟩ := Kd.R_slice hR4
    have HW4 : Aside0 (∀ w', Below w4.heap.size w4 w' → At w' x A4 c4 ∧ At w' x A3 c3 ∧ (∀ j, w'.cell? ⟨w3.heap.size, j, none⟩ = #[Value.int .u8 x.f0, .int .i64 x.f1, .string x.f2, .slice A3 x.f3.length c3][j]?)) := ⟨fun w' h => by
      refine ⟨?_, ?_, ?_⟩
      · obtain ⟨A', c', e, hl, hC⟩ := Kd.R_reads hR4
        simp only [Value.slice.injEq, true_and] at e
        obtain ⟨rfl, rfl⟩ := e
        exact At.below ⟨hC, hl⟩ h
      · exact ((HAt3.out.below ((Below.refl _ w3).alloc (Nat.le_refl _) _)).below hB4).below h
      · exact box_keep (hB4.trans (h.mono hB4.size)) (by simp) hcn3⟩
    have HR4 := Aside0.mk hR4
    have HB4 := Aside0.mk hB4
    have hcn4 := (HW4.out (w4.alloc (.cells #[.int .u8 x.f0, .int .i64 x.f1, .string x.f2, .slice A4 x.f3.length c4] 24)) ((Below.refl _ w4).alloc (Nat.le_refl _) _)).2.2
    have hcc4 := box_new w4 #[.int .u8 x.f0, .int .i64 x.f1, .string x.f2, .slice A4 x.f3.length c4] 24
    clear hR4 hB4 hcn3
    go_wp2_with fail
    refine (equal_n _ x x A4 A3 c4 c3 _ (Nat.le_refl _) (HW4.out _ ((Below.refl _ w4).alloc (Nat.le_refl _) _)).1 (HW4.out _ ((Below.refl _ w4).alloc (Nat.le_refl _) _)).2.1).mono ?_
    rintro e w5 ⟨rfl, hB5⟩
    rw [eqN_refl]
    have HB5 : Aside0 (Below w4.heap.size w4 w5) := ⟨((Below.refl _ w4).alloc (Nat.le_refl _) _).trans (hB5.mono (by simp))⟩
    have HCC5 := Aside0.mk (box_keep hB5 (by simp) hcc4)
    have HC5 := Aside0.mk (HW4.out w5 HB5.out)
    have HSZ4 : Aside0 (w4.heap.size < w5.heap.size) := ⟨by have := hB5.size; simp at this; omega⟩
    clear hB5 hcn4 hcc4
    have HSH : Aside0 (Sh w5 w2.heap.size (w3.heap.size + 1) 900000000000000 x w3.heap.size 0) := ⟨by
      obtain ⟨A', c', g', e, hlc, hA', hk'⟩ := sh_rows w3 w2.heap.size (w3.heap.size + 1) 900000000000000 (Nat.le_succ _) _ x.f3 (Nat.le_refl _) _ _ HR3.out (nmOk_eq HNM.out).2
      simp only [Value.slice.injEq, true_and] at e
      obtain ⟨rfl, rfl⟩ := e
      have hb35 : Below w3.heap.size w3 w5 := ((Below.refl _ w3).alloc (Nat.le_refl _) _).trans ((HB4.out.trans (HB5.out.mono HB4.out.size)).mono (by simp))
      have hfz : ∀ j, w5.frozen? ⟨w3.heap.size, j, none⟩ = false := fun j => ((HB4.out.trans (HB5.out.mono HB4.out.size)).frozen (p := ⟨w3.heap.size, j, none⟩) (by simp)).trans (frozen_new w3 _ _ j)
      exact .mk x w3.heap.size 0 x.f1 x.f2 A3 c3 g' ⟨HB3.out.size, Nat.lt_succ_self _⟩ rfl (HC5.out.2.2 1) (HC5.out.2.2 2) (nmOk_eq HNM.out).1 (HC5.out.2.2 3) (hfz 1) (hfz 2) hlc hA' (fun k y hy => (hk' k y hy).keep hb35)⟩
    go_wp2_with fail
    refine (change_n _ x w3.heap.size 0 w2.heap.size (w3.heap.size + 1) 900000000000000 w5 (Nat.le_refl _) HSH.out HS.out (by have := HS5.out; omega)).mono ?_
    rintro e w6 ⟨⟨v, rfl⟩, hC6⟩
    have hsz5 : w3.heap.size + 1 ≤ w4.heap.size := by have := HB4.out.size; simpa using this
    have hw2 : w2.heap.size ≤ w3.heap.size := HB3.out.size
    have HN6 : Aside0 (∀ j, w6.cell? ⟨w.heap.size, j, none⟩ = #[Value.int .u8 x.f0, .int .i64 x.f1, .string x.f2, .slice A x.f3.length c][j]?) := ⟨fun j => (hC6.but.cell (b := w.heap.size) (j := j) (by have := HSZ4.out; omega) (by omega)).trans (((HB3.out.cell (p := ⟨w.heap.size, j, none⟩) hz2).trans (HC2.out j) |> fun h => ((((Below.refl _ w3).alloc (Nat.le_refl _) _).cell (p := ⟨w.heap.size, j, none⟩) (by show w.heap.size < _; omega)).trans h)) |> fun h => ((HB4.out.trans (HB5.out.mono HB4.out.size)).cell (p := ⟨w.heap.size, j, none⟩) (by simp; omega)).trans h)⟩
    have HCC6 : Aside0 (∀ j, w6.cell? ⟨w4.heap.size, j, none⟩ = #[Value.int .u8 x.f0, .int .i64 x.f1, .string x.f2, .slice A4 x.f3.length c4][j]?) := ⟨fun j => (hC6.but.cell (b := w4.heap.size) (j := j) HSZ4.out (by omega)).trans (HCC5.out j)⟩
    have HBW6 : Aside0 (Below w.heap.size w w6) := ⟨(HU2.out.trans ((HB3.out.trans (((Below.refl _ w3).alloc (Nat.le_refl _) _ |>.trans ((HB4.out.trans (HB5.out.mono HB4.out.size)).mono (by simp))).mono hw2)).mono HU2.out.size)).trans (hC6.but.under (n := w.heap.size) (fun k hk e => by omega) (by have := HSZ4.out; omega))⟩
    have HA6 := Aside0.mk (HA.out.below HBW6.out)
    have HA46 : Aside0 (At w6 x A4 c4) := ⟨by
      have h5 := Kd.R_bound (Kd.R_below HR4.out HB5.out)
      have h6 := Kd.R_step h5 (w1 := w6) (fun k hk hlt => hC6.but.block k hlt (by have := hk.2.1; simp at this; omega))
      obtain ⟨A', c', e, hl, hC⟩ := Kd.R_reads h6
      simp only [Value.slice.injEq, true_and] at e
      obtain ⟨rfl, rfl⟩ := e
      exact ⟨hC, hl⟩⟩
    have q1 := HN6.out
    have q2 := HCC6.out
    clear hC6
    go_wp2_with fail
    refine (rEqual x x (by have := HS.out; omega) A4 A c4 c w6 HA46.out HA6.out).mono ?_
    rintro e w7 ⟨rfl, hB7⟩
    rw [eqN_refl]
    have HB7 := Aside0.mk hB7
    clear hB7
    go_wp2
    go_ret
    exact ⟨rfl, HBW6.out.trans (HB7.out.mono HBW6.out.size)⟩
end Go.Proofs.YtmdbbfoejmakdaaDoor.Ha

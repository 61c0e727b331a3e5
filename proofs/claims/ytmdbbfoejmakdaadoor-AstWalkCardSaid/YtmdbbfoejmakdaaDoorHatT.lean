/-
  The node at a path, over a tree whose rows read the same in every world of a kind: the contracts of ast.At and of the reference's At. By this session, out of its own program (wip/gen).
-/
import Derived.Test.YtmdbbfoejmakdaaDoorHat
import Derived.Test.YtmdbbfoejmakdaaDoorHwalk
namespace Go.Proofs.YtmdbbfoejmakdaaDoor.Ha
open Go.RowKit Go.Proofs.YtmdbbfoejmakdaaDoorW.PrintWords Go.Proofs.YtmdbbfoejmakdaaDoorW.PrintLast Go.Proofs.YtmdbbfoejmakdaaDoorW.PrintMore Go.Proofs.YtmdbbfoejmakdaaDoor.P
set_option linter.unusedVariables false
set_option linter.unusedSimpArgs false
theorem treeAt_none (G : World → Prop) (x : Nd) (h : x.f3 = []) : TreeAt G x none 0 :=
  .mk x none 0 ⟨0, 0, none⟩ (fun _ => none) (fun _ => 0) (by rw [h]; simp) (by rw [h]; simp) (fun e => absurd h e) (fun k y hy => by rw [h] at hy; simp at hy) (fun k y hy => by rw [h] at hy; simp at hy)
theorem TreeAt.kid {G : World → Prop} {y : Nd} {ad : Addr} {c : Nat} (h : TreeAt G y (some ad) c) {w : World} (hG : G w) (i : Int) (h0 : 0 ≤ i) (h1 : i < (y.f3.length : Int)) {A4 : Option Addr} {c4 : Nat}
    (g3 : w.cell? ⟨(ad.add (i.toNat * 4)).block, (ad.add (i.toNat * 4)).off + 3, none⟩ = some (.slice A4 (rd_T24 y.f3 i).f3.length c4)) : TreeAt G (rd_T24 y.f3 i) A4 c4 := by
  obtain ⟨a0, a1, a2, ks⟩ := y
  obtain ⟨k, rfl⟩ : ∃ k : Nat, i = k := ⟨i.toNat, by omega⟩
  have hk : k < ks.length := by simpa using h1
  have hx : ks[k]? = some (rd_T24 ks (k : Int)) := by simp [rd_T24, List.getD_eq_getElem?_getD, List.getElem?_eq_getElem hk]
  obtain ⟨ad', A3, c3, e, hc, ht⟩ := tree_kid h hx
  cases e
  have h3 := hc w hG 3 (by omega)
  simp only [Int.toNat_natCast] at g3
  rw [← add_field _ _ 3 (by omega)] at g3
  rw [g3] at h3
  simp at h3
  obtain ⟨rfl, rfl⟩ := h3
  exact ht
set_option maxHeartbeats 4000000 in
set_option maxRecDepth 100000 in
theorem at_aT (G : World → Prop) (x : Nd) (A : Option Addr) (c : Nat) (Pa : Option Addr) (pc : Nat) (path : List Int) (w : World) (hG : G w) (hA : TreeAt G x A c) (hP : Kd.C (Kd.int .i64) w Pa path.length path) :
    Calls Tryd.prog 41 #[nodeV x A c, .slice Pa path.length pc] w fun e w' => ∃ A' c', e = .returned (.tuple #[nodeV (atN x path).1 A' c', .bool (atN x path).2]) ∧ TreeAt G (atN x path).1 A' c' ∧ Below w.heap.size w w' := by
  have hlen : path.length ≤ 9223372036854775807 := hP.2.1
  have HP := Aside0.mk hP
  have hst := At2.start x A c w (hA.at hG)
  have HTA := Aside0.mk hA
  have HG := Aside0.mk hG
  have HST := Aside0.mk hst
  clear hP hA hst hG
  go_enter Tryd.func41, Tryd.ntmps41
  go_wp2
  go_loopw [10] (fun v wr => ∃ (k : Nat) (y : Nd) (A' : Option Addr) (c' : Nat), k ≤ path.length ∧ v = .int .i64 k ∧ Aside0 (atN x path = atN y (path.drop k)) ∧ Aside0 (At2 w y A' c' wr) ∧ Aside0 (TreeAt G y A' c')) (fun v _ => path.length - (intOf v).toNat)
  case atStart => exact ⟨0, x, A, c, Nat.zero_le _, rfl, ⟨by simp⟩, HST, HTA⟩
  case round =>
    obtain ⟨k, y, A', c', hk, rfl, HE, H2, HTY⟩ := hrel
    clear HTA
    obtain ⟨b0, f0, b1, f1, hyA, hB⟩ := H2.out
    have HB := Aside0.mk hB
    have HY := Aside0.mk hyA
    clear hB hyA
    by_cases hlt : k < path.length
    · obtain ⟨ad, rfl, hcell⟩ := Kd.at_int (Kd.C_below HP.out HB.out) (k : Int) (by omega) (by omega)
      rw [rdI _ _ hlt] at hcell
      simp only [Int.toNat_natCast] at hcell
      have HEQ := Aside0.mk (HE.out.trans (by rw [List.drop_eq_getElem_cons hlt, atN]))
      generalize path[k] = i at *
      by_cases hi : i < 0
      · have E : atN x path = (z24, false) := by rw [HEQ.out, if_pos (Or.inl hi)]
        go_wp2
        refine bodyPost_ret (v := .tuple #[nodeV z24 none 0, .bool false]) ?_ rfl (by (try rw [E]); exact ⟨none, 0, rfl, treeAt_none G z24 rfl, HB.out.trans (set4_below (w.heap.size + 1) (by omega) (.int .u8 0) (.int .i64 0) (.string ⟨#[]⟩) (.slice none 0 0))⟩)
        have hc4 := set4 wr (w.heap.size + 1) b1 (.int .u8 0) (.int .i64 0) (.string ⟨#[]⟩) (.slice none 0 0)
        unfold put4 at hc4
        rw [results_cell_tmp rfl]
        (go_simp; try exact ⟨rfl, rfl, rfl, rfl⟩)
      · by_cases hi2 : (y.f3.length : Int) ≤ i
        · have E : atN x path = (z24, false) := by rw [HEQ.out, if_pos (Or.inr hi2)]
          go_wp2
          refine bodyPost_ret (v := .tuple #[nodeV z24 none 0, .bool false]) ?_ rfl (by (try rw [E]); exact ⟨none, 0, rfl, treeAt_none G z24 rfl, HB.out.trans (set4_below (w.heap.size + 1) (by omega) (.int .u8 0) (.int .i64 0) (.string ⟨#[]⟩) (.slice none 0 0))⟩)
          have hc4 := set4 wr (w.heap.size + 1) b1 (.int .u8 0) (.int .i64 0) (.string ⟨#[]⟩) (.slice none 0 0)
          unfold put4 at hc4
          rw [results_cell_tmp rfl]
          (go_simp; try exact ⟨rfl, rfl, rfl, rfl⟩)
        · have E := Aside0.mk (HEQ.out.trans (if_neg (by omega)))
          have hyl : y.f3.length ≤ 9223372036854775807 := HY.out.1.2.1
          obtain ⟨ad2, A4, c4, rfl, g0, g1, g2, g3, l4, hC4⟩ := at_T24 HY.out.1 i (by omega) (by omega)
          have HT4 := Aside0.mk (HTY.out.kid HG.out i (by omega) (by omega) g3)
          replace g0 := pw_cell_below HB.out g0
          replace g1 := pw_cell_below HB.out g1
          replace g2 := pw_cell_below HB.out g2
          replace g3 := pw_cell_below HB.out g3
          have HC4 := Aside0.mk hC4
          have HL4 := Aside0.mk l4
          clear hC4 l4
          generalize rd_T24 y.f3 i = z at *
          go_wp2
          go_roundw
          case rel => exact ⟨k + 1, z, A4, c4, by omega, by go_num, E, ⟨At2.step H2.out z A4 c4 ⟨HC4.out, HL4.out⟩⟩, HT4⟩
          case measure => simp [intOf]; omega
    · have ek : k = path.length := by omega
      subst ek
      have E : atN x path = (y, true) := by rw [HE.out, List.drop_length, atN]
      go_wp2
      refine bodyPost_ret (v := .tuple #[nodeV y A' c', .bool true]) ?_ rfl (by (try rw [E]); exact ⟨A', c', rfl, HTY.out, HB.out.trans (set4_below (w.heap.size + 1) (by omega) (.int .u8 y.f0) (.int .i64 y.f1) (.string y.f2) (.slice A' y.f3.length c'))⟩)
      have hc4 := set4 wr (w.heap.size + 1) b1 (.int .u8 y.f0) (.int .i64 y.f1) (.string y.f2) (.slice A' y.f3.length c')
      unfold put4 at hc4
      rw [results_cell_tmp rfl]
      (go_simp; try exact ⟨rfl, rfl, rfl, rfl⟩)
set_option maxHeartbeats 4000000 in
set_option maxRecDepth 100000 in
theorem at_rT (G : World → Prop) (x : Nd) (A : Option Addr) (c : Nat) (Pa : Option Addr) (pc : Nat) (path : List Int) (w : World) (hG : G w) (hA : TreeAt G x A c) (hP : Kd.C (Kd.int .i64) w Pa path.length path) :
    Calls Tryd.prog 37 #[nodeV x A c, .slice Pa path.length pc] w fun e w' => ∃ A' c', e = .returned (.tuple #[nodeV (atN x path).1 A' c', .bool (atN x path).2]) ∧ TreeAt G (atN x path).1 A' c' ∧ Below w.heap.size w w' := by
  have hlen : path.length ≤ 9223372036854775807 := hP.2.1
  have HP := Aside0.mk hP
  have hst := At2.start x A c w (hA.at hG)
  have HTA := Aside0.mk hA
  have HG := Aside0.mk hG
  have HST := Aside0.mk hst
  clear hP hA hst hG
  go_enter Tryd.func37, Tryd.ntmps37
  go_wp2
  go_loopw [6] (fun v wr => ∃ (k : Nat) (y : Nd) (A' : Option Addr) (c' : Nat), k ≤ path.length ∧ v = .int .i64 k ∧ Aside0 (atN x path = atN y (path.drop k)) ∧ Aside0 (At2 w y A' c' wr) ∧ Aside0 (TreeAt G y A' c')) (fun v _ => path.length - (intOf v).toNat)
  case atStart => exact ⟨0, x, A, c, Nat.zero_le _, rfl, ⟨by simp⟩, HST, HTA⟩
  case round =>
    obtain ⟨k, y, A', c', hk, rfl, HE, H2, HTY⟩ := hrel
    clear HTA
    obtain ⟨b0, f0, b1, f1, hyA, hB⟩ := H2.out
    have HB := Aside0.mk hB
    have HY := Aside0.mk hyA
    clear hB hyA
    by_cases hlt : k < path.length
    · obtain ⟨ad, rfl, hcell⟩ := Kd.at_int (Kd.C_below HP.out HB.out) (k : Int) (by omega) (by omega)
      rw [rdI _ _ hlt] at hcell
      simp only [Int.toNat_natCast] at hcell
      have HEQ := Aside0.mk (HE.out.trans (by rw [List.drop_eq_getElem_cons hlt, atN]))
      generalize path[k] = i at *
      by_cases hi : i < 0
      · have E : atN x path = (z24, false) := by rw [HEQ.out, if_pos (Or.inl hi)]
        go_wp2
        go_quiet (fail)
        have hBn : Below w.heap.size w (wr.drewN nq) := pw_below_drewN HB.out nq
        go_wp2
        refine bodyPost_ret (v := .tuple #[nodeV z24 none 0, .bool false]) ?_ rfl (by (try rw [E]); exact ⟨none, 0, rfl, treeAt_none G z24 rfl, hBn.trans (set4_below (w.heap.size + 1) (by omega) (.int .u8 0) (.int .i64 0) (.string ⟨#[]⟩) (.slice none 0 0))⟩)
        have hc4 := set4 (wr.drewN nq) (w.heap.size + 1) b1 (.int .u8 0) (.int .i64 0) (.string ⟨#[]⟩) (.slice none 0 0)
        unfold put4 at hc4
        rw [results_cell_tmp rfl]
        (go_simp; try exact ⟨rfl, rfl, rfl, rfl⟩)
      · by_cases hi2 : (y.f3.length : Int) ≤ i
        · have E : atN x path = (z24, false) := by rw [HEQ.out, if_pos (Or.inr hi2)]
          go_wp2
          go_quiet (fail)
          have hBn : Below w.heap.size w (wr.drewN nq) := pw_below_drewN HB.out nq
          go_wp2
          refine bodyPost_ret (v := .tuple #[nodeV z24 none 0, .bool false]) ?_ rfl (by (try rw [E]); exact ⟨none, 0, rfl, treeAt_none G z24 rfl, hBn.trans (set4_below (w.heap.size + 1) (by omega) (.int .u8 0) (.int .i64 0) (.string ⟨#[]⟩) (.slice none 0 0))⟩)
          have hc4 := set4 (wr.drewN nq) (w.heap.size + 1) b1 (.int .u8 0) (.int .i64 0) (.string ⟨#[]⟩) (.slice none 0 0)
          unfold put4 at hc4
          rw [results_cell_tmp rfl]
          (go_simp; try exact ⟨rfl, rfl, rfl, rfl⟩)
        · have E := Aside0.mk (HEQ.out.trans (if_neg (by omega)))
          have hyl : y.f3.length ≤ 9223372036854775807 := HY.out.1.2.1
          obtain ⟨ad2, A4, c4, rfl, g0, g1, g2, g3, l4, hC4⟩ := at_T24 HY.out.1 i (by omega) (by omega)
          have HT4 := Aside0.mk (HTY.out.kid HG.out i (by omega) (by omega) g3)
          replace g0 := pw_cell_below HB.out g0
          replace g1 := pw_cell_below HB.out g1
          replace g2 := pw_cell_below HB.out g2
          replace g3 := pw_cell_below HB.out g3
          have HC4 := Aside0.mk hC4
          have HL4 := Aside0.mk l4
          clear hC4 l4
          generalize rd_T24 y.f3 i = z at *
          go_wp2
          go_quiet (fail)
          go_wp2
          go_region
          all_goals go_wp2
          all_goals go_roundw
          all_goals first | exact ⟨k + 1, z, A4, c4, by omega, by go_num, E, ⟨At2.step (H2.out.drewN _) z A4 c4 ⟨HC4.out, HL4.out⟩⟩, HT4⟩ | (simp [intOf]; omega)
    · have ek : k = path.length := by omega
      subst ek
      have E : atN x path = (y, true) := by rw [HE.out, List.drop_length, atN]
      go_wp2
      refine bodyPost_ret (v := .tuple #[nodeV y A' c', .bool true]) ?_ rfl (by (try rw [E]); exact ⟨A', c', rfl, HTY.out, HB.out.trans (set4_below (w.heap.size + 1) (by omega) (.int .u8 y.f0) (.int .i64 y.f1) (.string y.f2) (.slice A' y.f3.length c'))⟩)
      have hc4 := set4 wr (w.heap.size + 1) b1 (.int .u8 y.f0) (.int .i64 y.f1) (.string y.f2) (.slice A' y.f3.length c')
      unfold put4 at hc4
      rw [results_cell_tmp rfl]
      (go_simp; try exact ⟨rfl, rfl, rfl, rfl⟩)
end Go.Proofs.YtmdbbfoejmakdaaDoor.Ha

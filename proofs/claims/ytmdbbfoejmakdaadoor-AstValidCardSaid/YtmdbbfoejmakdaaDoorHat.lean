/-
  The node at a path: the contracts of ast.At and of the reference's At. By this session, out of its own program (wip/gen).
-/
import Derived.Test.YtmdbbfoejmakdaaDoorHrng
import Derived.Test.YtmdbbfoejmakdaaDoorHfun
import Derived.Laws.ResultCell
namespace Go.Proofs.YtmdbbfoejmakdaaDoor.Ha
open Go.RowKit Go.Proofs.YtmdbbfoejmakdaaDoorW.PrintWords Go.Proofs.YtmdbbfoejmakdaaDoorW.PrintLast Go.Proofs.YtmdbbfoejmakdaaDoorW.PrintMore Go.Proofs.YtmdbbfoejmakdaaDoor.P
set_option linter.unusedVariables false
set_option linter.unusedSimpArgs false
/-- The node at a path; the zero node and false: none. -/
def atN : Nd → List Int → Nd × Bool
  | x, [] => (x, true)
  | x, i :: r => if i < 0 ∨ (x.f3.length : Int) ≤ i then (z24, false) else atN (rd_T24 x.f3 i) r
theorem rdI (l : List Int) (k : Nat) (h : k < l.length) : rd l (k : Int) = l[k] := by simp [rd, List.getD_eq_getElem?_getD, List.getElem?_eq_getElem h]
/-- Four cells of a box are written. -/
def put4 (W : World) (b : Nat) (v0 v1 v2 v3 : Value) : World := (((W.setCell ⟨b, 0, none⟩ v0).setCell ⟨b, 1, none⟩ v1).setCell ⟨b, 2, none⟩ v2).setCell ⟨b, 3, none⟩ v3
theorem sc_ne {W : World} {b i j : Nat} {v : Value} (h : i ≠ j) : (W.setCell ⟨b, i, none⟩ v).cell? ⟨b, j, none⟩ = W.cell? ⟨b, j, none⟩ := by
  have hne : (⟨b, i, none⟩ : Addr) ≠ ⟨b, j, none⟩ := fun e => h (by cases e; rfl)
  apply World.cell?_setCell_other
  exact hne
theorem sc_eq {W : World} {b i : Nat} {u v : Value} (h : W.cell? ⟨b, i, none⟩ = some u) : (W.setCell ⟨b, i, none⟩ v).cell? ⟨b, i, none⟩ = some v := World.cell?_setCell_same' _ _ _ (by rw [h]; rfl)
theorem set4 (W : World) (b : Nat) {u0 u1 u2 u3 : Value} (h : ∀ j, W.cell? ⟨b, j, none⟩ = #[u0, u1, u2, u3][j]?) (v0 v1 v2 v3 : Value) : ∀ j, (put4 W b v0 v1 v2 v3).cell? ⟨b, j, none⟩ = #[v0, v1, v2, v3][j]? := by
  intro j
  unfold put4
  match j with
  | 0 => rw [sc_ne (by decide), sc_ne (by decide), sc_ne (by decide), sc_eq (h 0)]; rfl
  | 1 => rw [sc_ne (by decide), sc_ne (by decide), sc_eq (u := u1) (by rw [sc_ne (by decide)]; exact h 1)]; rfl
  | 2 => rw [sc_ne (by decide), sc_eq (u := u2) (by rw [sc_ne (by decide), sc_ne (by decide)]; exact h 2)]; rfl
  | 3 => rw [sc_eq (u := u3) (by rw [sc_ne (by decide), sc_ne (by decide), sc_ne (by decide)]; exact h 3)]; rfl
  | j + 4 =>
    rw [sc_ne (by omega), sc_ne (by omega), sc_ne (by omega), sc_ne (by omega), h]
    simp
theorem put4_far (W : World) (b b' : Nat) (hne : b' ≠ b) (v0 v1 v2 v3 : Value) : (put4 W b v0 v1 v2 v3).heap[b']? = W.heap[b']? := by
  unfold put4
  rw [Below.heap_setCell _ _ _ _ hne, Below.heap_setCell _ _ _ _ hne, Below.heap_setCell _ _ _ _ hne, Below.heap_setCell _ _ _ _ hne]
theorem set4_below {W : World} (b : Nat) {n : Nat} (hn : n ≤ b) (v0 v1 v2 v3 : Value) : Below n W (put4 W b v0 v1 v2 v3) :=
  (((((Below.refl n W).setCell (p := ⟨b, 0, none⟩) hn _).setCell (p := ⟨b, 1, none⟩) hn _).setCell (p := ⟨b, 2, none⟩) hn _).setCell (p := ⟨b, 3, none⟩) hn _)
theorem put4_frozen (W : World) (b : Nat) (a : Addr) (v0 v1 v2 v3 : Value) : (put4 W b v0 v1 v2 v3).frozen? a = W.frozen? a := by
  unfold put4
  simp only [World.frozen?_setCell]
/-- What holds between two rounds: the node's box, the result's box. -/
structure At2 (w : World) (y : Nd) (A : Option Addr) (c : Nat) (wr : World) : Prop where
  b0 : ∀ j, wr.cell? ⟨w.heap.size, j, none⟩ = #[Value.int .u8 y.f0, .int .i64 y.f1, .string y.f2, .slice A y.f3.length c][j]?
  f0 : ∀ j, wr.frozen? ⟨w.heap.size, j, none⟩ = false
  b1 : ∀ j, wr.cell? ⟨w.heap.size + 1, j, none⟩ = #[Value.int .u8 0, .int .i64 0, .string ⟨#[]⟩, .slice none 0 0][j]?
  f1 : ∀ j, wr.frozen? ⟨w.heap.size + 1, j, none⟩ = false
  at_ : At w y A c
  below : Below w.heap.size w wr
theorem At2.step {w : World} {y : Nd} {A : Option Addr} {c : Nat} {wr : World} (h : At2 w y A c wr) (z : Nd) (A4 : Option Addr) (c4 : Nat) (hA : At w z A4 c4) : At2 w z A4 c4 (put4 wr w.heap.size (.int .u8 z.f0) (.int .i64 z.f1) (.string z.f2) (.slice A4 z.f3.length c4)) :=
  ⟨set4 _ _ h.b0 _ _ _ _, fun j => by rw [put4_frozen]; exact h.f0 j, fun j => by rw [World.cell?_of_block (a := ⟨w.heap.size + 1, j, none⟩) (put4_far _ _ _ (by show w.heap.size + 1 ≠ _; omega) _ _ _ _)]; exact h.b1 j, fun j => by rw [put4_frozen]; exact h.f1 j, hA, h.below.trans (set4_below _ (Nat.le_refl _) _ _ _ _)⟩
theorem At2.drewN {w : World} {y : Nd} {A : Option Addr} {c : Nat} {wr : World} (h : At2 w y A c wr) (n : Nat) : At2 w y A c (wr.drewN n) := ⟨h.b0, h.f0, h.b1, h.f1, h.at_, pw_below_drewN h.below n⟩
theorem frozen_new (w : World) (cs : Array Value) (t : TypeId) (j : Nat) : (w.alloc (.cells cs t)).frozen? ⟨w.heap.size, j, none⟩ = false := by
  unfold World.frozen?
  rw [World.alloc_heap_new]
  simp
theorem At2.start (x : Nd) (A : Option Addr) (c : Nat) (w : World) (h : At w x A c) : At2 w x A c ((w.alloc (.cells #[.int .u8 x.f0, .int .i64 x.f1, .string x.f2, .slice A x.f3.length c] 24)).alloc (.cells #[.int .u8 0, .int .i64 0, .string ⟨#[]⟩, .slice none 0 0] 24)) := by
  have hb : Below w.heap.size w ((w.alloc (.cells #[.int .u8 x.f0, .int .i64 x.f1, .string x.f2, .slice A x.f3.length c] 24)).alloc (.cells #[.int .u8 0, .int .i64 0, .string ⟨#[]⟩, .slice none 0 0] 24)) := ((Below.refl _ _).alloc (Nat.le_refl _) _).alloc (by rw [World.size_alloc]; omega) _
  have hs : (w.alloc (.cells #[.int .u8 x.f0, .int .i64 x.f1, .string x.f2, .slice A x.f3.length c] 24)).heap.size = w.heap.size + 1 := World.size_alloc _ _
  refine ⟨fun j => box_keep ((Below.refl _ _).alloc (Nat.le_refl _) _) (by rw [hs]; omega) (box_new w _ _) j, fun j => ?_, fun j => ?_, fun j => ?_, h, hb⟩
  · exact (((Below.refl _ (w.alloc _)).alloc (Nat.le_refl _) _).frozen (p := ⟨w.heap.size, j, none⟩) (by rw [hs]; show w.heap.size < _; omega)).trans (frozen_new w _ _ j)
  · have := box_new (w.alloc (.cells #[.int .u8 x.f0, .int .i64 x.f1, .string x.f2, .slice A x.f3.length c] 24)) #[.int .u8 0, .int .i64 0, .string ⟨#[]⟩, .slice none 0 0] 24 j
    rw [hs] at this
    exact this
  · have := frozen_new (w.alloc (.cells #[.int .u8 x.f0, .int .i64 x.f1, .string x.f2, .slice A x.f3.length c] 24)) #[.int .u8 0, .int .i64 0, .string ⟨#[]⟩, .slice none 0 0] 24 j
    rw [hs] at this
    exact this
set_option maxHeartbeats 4000000 in
set_option maxRecDepth 100000 in
theorem at_a (x : Nd) (A : Option Addr) (c : Nat) (Pa : Option Addr) (pc : Nat) (path : List Int) (w : World) (hA : At w x A c) (hP : Kd.C (Kd.int .i64) w Pa path.length path) :
    Calls Tryd.prog 41 #[nodeV x A c, .slice Pa path.length pc] w fun e w' => ∃ A' c', e = .returned (.tuple #[nodeV (atN x path).1 A' c', .bool (atN x path).2]) ∧ At w' (atN x path).1 A' c' ∧ Below w.heap.size w w' := by
  have hlen : path.length ≤ 9223372036854775807 := hP.2.1
  have HP := Aside0.mk hP
  have hst := At2.start x A c w hA
  have HST := Aside0.mk hst
  clear hP hA hst
  go_enter Tryd.func41, Tryd.ntmps41
  go_wp2
  go_loopw [10] (fun v wr => ∃ (k : Nat) (y : Nd) (A' : Option Addr) (c' : Nat), k ≤ path.length ∧ v = .int .i64 k ∧ Aside0 (atN x path = atN y (path.drop k)) ∧ Aside0 (At2 w y A' c' wr)) (fun v _ => path.length - (intOf v).toNat)
  case atStart => exact ⟨0, x, A, c, Nat.zero_le _, rfl, ⟨by simp⟩, HST⟩
  case round =>
    obtain ⟨k, y, A', c', hk, rfl, HE, H2⟩ := hrel
    obtain ⟨b0, f0, b1, f1, hyA, hB⟩ := H2.out
    have HB := Aside0.mk hB
    have HY := Aside0.mk hyA
    clear hB hyA
    by_cases hlt : k < path.length
    · obtain ⟨ad, rfl, hcell⟩ := Kd.at_int (Kd.C_below HP.out HB.out) (k : Int) (by omega) (by omega)
      rw [rdI _ _ hlt] at hcell
      simp only [Int.toNat_natCast] at hcell
      have HEQ := Aside0.mk (HE.out.trans (by rw [List.drop_eq_getElem_cons hlt, atN]))
      generalize path[k] = i at *
      by_cases hi : i < 0
      · have E : atN x path = (z24, false) := by rw [HEQ.out, if_pos (Or.inl hi)]
        go_wp2
        refine bodyPost_ret (v := .tuple #[nodeV z24 none 0, .bool false]) ?_ rfl (by (try rw [E]); exact ⟨none, 0, rfl, ⟨Kd.C_nil kNd _, Nat.le_refl _⟩, HB.out.trans (set4_below (w.heap.size + 1) (by omega) (.int .u8 0) (.int .i64 0) (.string ⟨#[]⟩) (.slice none 0 0))⟩)
        have hc4 := set4 wr (w.heap.size + 1) b1 (.int .u8 0) (.int .i64 0) (.string ⟨#[]⟩) (.slice none 0 0)
        unfold put4 at hc4
        rw [results_cell_tmp rfl]
        (go_simp; try exact ⟨rfl, rfl, rfl, rfl⟩)
      · by_cases hi2 : (y.f3.length : Int) ≤ i
        · have E : atN x path = (z24, false) := by rw [HEQ.out, if_pos (Or.inr hi2)]
          go_wp2
          refine bodyPost_ret (v := .tuple #[nodeV z24 none 0, .bool false]) ?_ rfl (by (try rw [E]); exact ⟨none, 0, rfl, ⟨Kd.C_nil kNd _, Nat.le_refl _⟩, HB.out.trans (set4_below (w.heap.size + 1) (by omega) (.int .u8 0) (.int .i64 0) (.string ⟨#[]⟩) (.slice none 0 0))⟩)
          have hc4 := set4 wr (w.heap.size + 1) b1 (.int .u8 0) (.int .i64 0) (.string ⟨#[]⟩) (.slice none 0 0)
          unfold put4 at hc4
          rw [results_cell_tmp rfl]
          (go_simp; try exact ⟨rfl, rfl, rfl, rfl⟩)
        · have E := Aside0.mk (HEQ.out.trans (if_neg (by omega)))
          have hyl : y.f3.length ≤ 9223372036854775807 := HY.out.1.2.1
          obtain ⟨ad2, A4, c4, rfl, g0, g1, g2, g3, l4, hC4⟩ := at_T24 HY.out.1 i (by omega) (by omega)
          replace g0 := pw_cell_below HB.out g0
          replace g1 := pw_cell_below HB.out g1
          replace g2 := pw_cell_below HB.out g2
          replace g3 := pw_cell_below HB.out g3
          have HC4 := Aside0.mk hC4
          have HL4 := Aside0.mk l4
          clear hC4 l4
          generalize rd_T24 y.f3 i = z at *
          go_wp2
          go_roundw
          case rel => exact ⟨k + 1, z, A4, c4, by omega, by go_num, E, ⟨At2.step H2.out z A4 c4 ⟨HC4.out, HL4.out⟩⟩⟩
          case measure => simp [intOf]; omega
    · have ek : k = path.length := by omega
      subst ek
      have E : atN x path = (y, true) := by rw [HE.out, List.drop_length, atN]
      go_wp2
      refine bodyPost_ret (v := .tuple #[nodeV y A' c', .bool true]) ?_ rfl (by (try rw [E]); exact ⟨A', c', rfl, HY.out.below (HB.out.trans (set4_below (w.heap.size + 1) (by omega) (.int .u8 y.f0) (.int .i64 y.f1) (.string y.f2) (.slice A' y.f3.length c'))), HB.out.trans (set4_below (w.heap.size + 1) (by omega) (.int .u8 y.f0) (.int .i64 y.f1) (.string y.f2) (.slice A' y.f3.length c'))⟩)
      have hc4 := set4 wr (w.heap.size + 1) b1 (.int .u8 y.f0) (.int .i64 y.f1) (.string y.f2) (.slice A' y.f3.length c')
      unfold put4 at hc4
      rw [results_cell_tmp rfl]
      (go_simp; try exact ⟨rfl, rfl, rfl, rfl⟩)
set_option maxHeartbeats 4000000 in
set_option maxRecDepth 100000 in
theorem at_r (x : Nd) (A : Option Addr) (c : Nat) (Pa : Option Addr) (pc : Nat) (path : List Int) (w : World) (hA : At w x A c) (hP : Kd.C (Kd.int .i64) w Pa path.length path) :
    Calls Tryd.prog 37 #[nodeV x A c, .slice Pa path.length pc] w fun e w' => ∃ A' c', e = .returned (.tuple #[nodeV (atN x path).1 A' c', .bool (atN x path).2]) ∧ At w' (atN x path).1 A' c' ∧ Below w.heap.size w w' := by
  have hlen : path.length ≤ 9223372036854775807 := hP.2.1
  have HP := Aside0.mk hP
  have hst := At2.start x A c w hA
  have HST := Aside0.mk hst
  clear hP hA hst
  go_enter Tryd.func37, Tryd.ntmps37
  go_wp2
  go_loopw [6] (fun v wr => ∃ (k : Nat) (y : Nd) (A' : Option Addr) (c' : Nat), k ≤ path.length ∧ v = .int .i64 k ∧ Aside0 (atN x path = atN y (path.drop k)) ∧ Aside0 (At2 w y A' c' wr)) (fun v _ => path.length - (intOf v).toNat)
  case atStart => exact ⟨0, x, A, c, Nat.zero_le _, rfl, ⟨by simp⟩, HST⟩
  case round =>
    obtain ⟨k, y, A', c', hk, rfl, HE, H2⟩ := hrel
    obtain ⟨b0, f0, b1, f1, hyA, hB⟩ := H2.out
    have HB := Aside0.mk hB
    have HY := Aside0.mk hyA
    clear hB hyA
    by_cases hlt : k < path.length
    · obtain ⟨ad, rfl, hcell⟩ := Kd.at_int (Kd.C_below HP.out HB.out) (k : Int) (by omega) (by omega)
      rw [rdI _ _ hlt] at hcell
      simp only [Int.toNat_natCast] at hcell
      have HEQ := Aside0.mk (HE.out.trans (by rw [List.drop_eq_getElem_cons hlt, atN]))
      generalize path[k] = i at *
      by_cases hi : i < 0
      · have E : atN x path = (z24, false) := by rw [HEQ.out, if_pos (Or.inl hi)]
        go_wp2
        go_quiet (fail)
        have hBn : Below w.heap.size w (wr.drewN nq) := pw_below_drewN HB.out nq
        go_wp2
        refine bodyPost_ret (v := .tuple #[nodeV z24 none 0, .bool false]) ?_ rfl (by (try rw [E]); exact ⟨none, 0, rfl, ⟨Kd.C_nil kNd _, Nat.le_refl _⟩, hBn.trans (set4_below (w.heap.size + 1) (by omega) (.int .u8 0) (.int .i64 0) (.string ⟨#[]⟩) (.slice none 0 0))⟩)
        have hc4 := set4 (wr.drewN nq) (w.heap.size + 1) b1 (.int .u8 0) (.int .i64 0) (.string ⟨#[]⟩) (.slice none 0 0)
        unfold put4 at hc4
        rw [results_cell_tmp rfl]
        (go_simp; try exact ⟨rfl, rfl, rfl, rfl⟩)
      · by_cases hi2 : (y.f3.length : Int) ≤ i
        · have E : atN x path = (z24, false) := by rw [HEQ.out, if_pos (Or.inr hi2)]
          go_wp2
          go_quiet (fail)
          have hBn : Below w.heap.size w (wr.drewN nq) := pw_below_drewN HB.out nq
          go_wp2
          refine bodyPost_ret (v := .tuple #[nodeV z24 none 0, .bool false]) ?_ rfl (by (try rw [E]); exact ⟨none, 0, rfl, ⟨Kd.C_nil kNd _, Nat.le_refl _⟩, hBn.trans (set4_below (w.heap.size + 1) (by omega) (.int .u8 0) (.int .i64 0) (.string ⟨#[]⟩) (.slice none 0 0))⟩)
          have hc4 := set4 (wr.drewN nq) (w.heap.size + 1) b1 (.int .u8 0) (.int .i64 0) (.string ⟨#[]⟩) (.slice none 0 0)
          unfold put4 at hc4
          rw [results_cell_tmp rfl]
          (go_simp; try exact ⟨rfl, rfl, rfl, rfl⟩)
        · have E := Aside0.mk (HEQ.out.trans (if_neg (by omega)))
          have hyl : y.f3.length ≤ 9223372036854775807 := HY.out.1.2.1
          obtain ⟨ad2, A4, c4, rfl, g0, g1, g2, g3, l4, hC4⟩ := at_T24 HY.out.1 i (by omega) (by omega)
          replace g0 := pw_cell_below HB.out g0
          replace g1 := pw_cell_below HB.out g1
          replace g2 := pw_cell_below HB.out g2
          replace g3 := pw_cell_below HB.out g3
          have HC4 := Aside0.mk hC4
          have HL4 := Aside0.mk l4
          clear hC4 l4
          generalize rd_T24 y.f3 i = z at *
          go_wp2
          go_quiet (fail)
          go_wp2
          go_region
          all_goals go_wp2
          all_goals go_roundw
          all_goals first | exact ⟨k + 1, z, A4, c4, by omega, by go_num, E, ⟨At2.step (H2.out.drewN _) z A4 c4 ⟨HC4.out, HL4.out⟩⟩⟩ | (simp [intOf]; omega)
    · have ek : k = path.length := by omega
      subst ek
      have E : atN x path = (y, true) := by rw [HE.out, List.drop_length, atN]
      go_wp2
      refine bodyPost_ret (v := .tuple #[nodeV y A' c', .bool true]) ?_ rfl (by (try rw [E]); exact ⟨A', c', rfl, HY.out.below (HB.out.trans (set4_below (w.heap.size + 1) (by omega) (.int .u8 y.f0) (.int .i64 y.f1) (.string y.f2) (.slice A' y.f3.length c'))), HB.out.trans (set4_below (w.heap.size + 1) (by omega) (.int .u8 y.f0) (.int .i64 y.f1) (.string y.f2) (.slice A' y.f3.length c'))⟩)
      have hc4 := set4 wr (w.heap.size + 1) b1 (.int .u8 y.f0) (.int .i64 y.f1) (.string y.f2) (.slice A' y.f3.length c')
      unfold put4 at hc4
      rw [results_cell_tmp rfl]
      (go_simp; try exact ⟨rfl, rfl, rfl, rfl⟩)
end Go.Proofs.YtmdbbfoejmakdaaDoor.Ha

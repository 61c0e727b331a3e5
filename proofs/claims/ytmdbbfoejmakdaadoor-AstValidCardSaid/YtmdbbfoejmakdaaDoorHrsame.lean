/-
  The contract of the reference's Same. By this session, out of its own program (wip/gen).
-/
import Derived.Test.YtmdbbfoejmakdaaDoorHsame
import Derived.Test.YtmdbbfoejmakdaaDoorHrow
import Derived.Test.YtmdbbfoejmakdaaDoorHat
namespace Go.Proofs.YtmdbbfoejmakdaaDoor.Ha
open Go.RowKit Go.Proofs.YtmdbbfoejmakdaaDoorW.PrintWords Go.Proofs.YtmdbbfoejmakdaaDoorW.PrintLast Go.Proofs.YtmdbbfoejmakdaaDoorW.PrintMore Go.Proofs.YtmdbbfoejmakdaaDoor.P
set_option linter.unusedVariables false
set_option linter.unusedSimpArgs false
open Hl
/-- Eight cells of a box are written. -/
def put8 (W : World) (b : Nat) (v0 v1 v2 v3 v4 v5 v6 v7 : Value) : World := ((((put4 W b v0 v1 v2 v3).setCell ⟨b, 4, none⟩ v4).setCell ⟨b, 5, none⟩ v5).setCell ⟨b, 6, none⟩ v6).setCell ⟨b, 7, none⟩ v7
theorem set8 (W : World) (b : Nat) {u0 u1 u2 u3 u4 u5 u6 u7 : Value} (h : ∀ j, W.cell? ⟨b, j, none⟩ = #[u0, u1, u2, u3, u4, u5, u6, u7][j]?) (v0 v1 v2 v3 v4 v5 v6 v7 : Value) : ∀ j, (put8 W b v0 v1 v2 v3 v4 v5 v6 v7).cell? ⟨b, j, none⟩ = #[v0, v1, v2, v3, v4, v5, v6, v7][j]? := by
  intro j
  unfold put8 put4
  match j with
  | 0 => rw [sc_ne (by decide), sc_ne (by decide), sc_ne (by decide), sc_ne (by decide), sc_ne (by decide), sc_ne (by decide), sc_ne (by decide), sc_eq (h 0)]; rfl
  | 1 => rw [sc_ne (by decide), sc_ne (by decide), sc_ne (by decide), sc_ne (by decide), sc_ne (by decide), sc_ne (by decide), sc_eq (u := u1) (by rw [sc_ne (by decide)]; exact h 1)]; rfl
  | 2 => rw [sc_ne (by decide), sc_ne (by decide), sc_ne (by decide), sc_ne (by decide), sc_ne (by decide), sc_eq (u := u2) (by rw [sc_ne (by decide), sc_ne (by decide)]; exact h 2)]; rfl
  | 3 => rw [sc_ne (by decide), sc_ne (by decide), sc_ne (by decide), sc_ne (by decide), sc_eq (u := u3) (by rw [sc_ne (by decide), sc_ne (by decide), sc_ne (by decide)]; exact h 3)]; rfl
  | 4 => rw [sc_ne (by decide), sc_ne (by decide), sc_ne (by decide), sc_eq (u := u4) (by rw [sc_ne (by decide), sc_ne (by decide), sc_ne (by decide), sc_ne (by decide)]; exact h 4)]; rfl
  | 5 => rw [sc_ne (by decide), sc_ne (by decide), sc_eq (u := u5) (by rw [sc_ne (by decide), sc_ne (by decide), sc_ne (by decide), sc_ne (by decide), sc_ne (by decide)]; exact h 5)]; rfl
  | 6 => rw [sc_ne (by decide), sc_eq (u := u6) (by rw [sc_ne (by decide), sc_ne (by decide), sc_ne (by decide), sc_ne (by decide), sc_ne (by decide), sc_ne (by decide)]; exact h 6)]; rfl
  | 7 => rw [sc_eq (u := u7) (by rw [sc_ne (by decide), sc_ne (by decide), sc_ne (by decide), sc_ne (by decide), sc_ne (by decide), sc_ne (by decide), sc_ne (by decide)]; exact h 7)]; rfl
  | j + 8 =>
    rw [sc_ne (by omega), sc_ne (by omega), sc_ne (by omega), sc_ne (by omega), sc_ne (by omega), sc_ne (by omega), sc_ne (by omega), sc_ne (by omega), h]
    simp
theorem put8_far (W : World) (b b' : Nat) (hne : b' ≠ b) (v0 v1 v2 v3 v4 v5 v6 v7 : Value) : (put8 W b v0 v1 v2 v3 v4 v5 v6 v7).heap[b']? = W.heap[b']? := by
  unfold put8
  rw [Below.heap_setCell _ _ _ _ hne, Below.heap_setCell _ _ _ _ hne, Below.heap_setCell _ _ _ _ hne, Below.heap_setCell _ _ _ _ hne, put4_far _ _ _ hne]
theorem set8_below {W : World} (b : Nat) {n : Nat} (hn : n ≤ b) (v0 v1 v2 v3 v4 v5 v6 v7 : Value) : Below n W (put8 W b v0 v1 v2 v3 v4 v5 v6 v7) :=
  (((((set4_below (W := W) b hn v0 v1 v2 v3).setCell (p := ⟨b, 4, none⟩) hn _).setCell (p := ⟨b, 5, none⟩) hn _).setCell (p := ⟨b, 6, none⟩) hn _).setCell (p := ⟨b, 7, none⟩) hn _)
theorem put8_frozen (W : World) (b : Nat) (a : Addr) (v0 v1 v2 v3 v4 v5 v6 v7 : Value) : (put8 W b v0 v1 v2 v3 v4 v5 v6 v7).frozen? a = W.frozen? a := by
  unfold put8
  simp only [World.frozen?_setCell, put4_frozen]
theorem put8_size (W : World) (b : Nat) (v0 v1 v2 v3 v4 v5 v6 v7 : Value) : (put8 W b v0 v1 v2 v3 v4 v5 v6 v7).heap.size = W.heap.size := by
  unfold put8 put4
  simp [World.setCell]
/-- A box that was made in the region: its cells. -/
structure BoxAt (n : Nat) (V : World) (b : Nat) (cs : Array Value) : Prop where
  ge : n ≤ b
  lt : b < V.heap.size
  cells : ∀ j, V.cell? ⟨b, j, none⟩ = cs[j]?
  fz : ∀ j, V.frozen? ⟨b, j, none⟩ = false
theorem BoxAt.new {n : Nat} {V : World} (h : n ≤ V.heap.size) (cs : Array Value) (t : TypeId) : BoxAt n (V.alloc (.cells cs t)) V.heap.size cs := ⟨h, by simp, fun j => box_new V cs t j, fun j => frozen_new V cs t j⟩
theorem BoxAt.alloc {n : Nat} {V : World} {b : Nat} {cs : Array Value} (h : BoxAt n V b cs) (o : Obj) : BoxAt n (V.alloc o) b cs :=
  have hb := (Below.refl V.heap.size V).alloc (Nat.le_refl _) o
  ⟨h.ge, Nat.lt_of_lt_of_le h.lt hb.size, fun j => (hb.cell (p := ⟨b, j, none⟩) h.lt).trans (h.cells j), fun j => (hb.frozen (p := ⟨b, j, none⟩) h.lt).trans (h.fz j)⟩
theorem BoxAt.put {n : Nat} {V : World} {b : Nat} {u0 u1 u2 u3 u4 u5 u6 u7 : Value} (h : BoxAt n V b #[u0, u1, u2, u3, u4, u5, u6, u7]) (v0 v1 v2 v3 v4 v5 v6 v7 : Value) : BoxAt n (put8 V b v0 v1 v2 v3 v4 v5 v6 v7) b #[v0, v1, v2, v3, v4, v5, v6, v7] :=
  ⟨h.ge, by rw [put8_size]; exact h.lt, set8 V b h.cells _ _ _ _ _ _ _ _, fun j => by rw [put8_frozen]; exact h.fz j⟩
theorem BoxAt.far {n : Nat} {V : World} {b b' : Nat} {cs : Array Value} (h : BoxAt n V b cs) (hne : b ≠ b') (v0 v1 v2 v3 v4 v5 v6 v7 : Value) : BoxAt n (put8 V b' v0 v1 v2 v3 v4 v5 v6 v7) b cs :=
  ⟨h.ge, by rw [put8_size]; exact h.lt, fun j => (World.cell?_of_block (a := ⟨b, j, none⟩) (put8_far V b' b hne _ _ _ _ _ _ _ _)).trans (h.cells j), fun j => by rw [put8_frozen]; exact h.fz j⟩
set_option maxHeartbeats 8000000 in
set_option maxRecDepth 100000 in
theorem rSame (sh : List S71) (A0 : Option Addr) (c0 : Nat) (ts : List S65) (A1 : Option Addr) (c1 : Nat) (sh2 : List S71) (B0 : Option Addr) (d0 : Nat) (ts2 : List S65) (B1 : Option Addr) (d1 : Nat) (w : World) (hl : lenP sh ts) (hts : ts.length ≤ 1000000) (hs : ∀ t ∈ ts, szN t.f4 ≤ 1152921504606846976) (hA : AtP w sh A0 c0 ts A1 c1) (hB : AtP w sh2 B0 d0 ts2 B1 d1) :
    Calls Tryd.prog 49 #[.agg #[.slice A0 sh.length c0, .slice A1 ts.length c1], .agg #[.slice B0 sh2.length d0, .slice B1 ts2.length d1]] w fun e w' => e = .returned (.bool (sameP sh sh2 ts ts2)) ∧ Below w.heap.size w w' := by
  have hb0 : Below w.heap.size w ((w.alloc (.cells #[.slice A0 sh.length c0, .slice A1 ts.length c1] 50)).alloc (.cells #[.slice B0 sh2.length d0, .slice B1 ts2.length d1] 50)) := ((Below.refl _ w).alloc (Nat.le_refl _) _).alloc (by simp) _
  have HA := Aside0.mk (fun w' (h : Below w.heap.size w w') => rListN sh sh2 A0 c0 B0 d0 w' hl.1 hA.le0 hB.le0 (hA.below h).C0 (hB.below h).C0)
  have hca : ∀ j, ((w.alloc (.cells #[.slice A0 sh.length c0, .slice A1 ts.length c1] 50)).alloc (.cells #[.slice B0 sh2.length d0, .slice B1 ts2.length d1] 50)).cell? ⟨w.heap.size, j, none⟩ = #[Value.slice A0 sh.length c0, .slice A1 ts.length c1][j]? := box_keep ((Below.refl _ _).alloc (Nat.le_refl _) _) (by simp) (box_new w _ _)
  have hcb : ∀ j, ((w.alloc (.cells #[.slice A0 sh.length c0, .slice A1 ts.length c1] 50)).alloc (.cells #[.slice B0 sh2.length d0, .slice B1 ts2.length d1] 50)).cell? ⟨w.heap.size + 1, j, none⟩ = #[Value.slice B0 sh2.length d0, .slice B1 ts2.length d1][j]? := fun j => by
    have := box_new (w.alloc (.cells #[.slice A0 sh.length c0, .slice A1 ts.length c1] 50)) #[.slice B0 sh2.length d0, .slice B1 ts2.length d1] 50 j
    rwa [World.size_alloc] at this
  have HB0 := Aside0.mk hb0
  have HCA := Aside0.mk hca
  have HCB := Aside0.mk hcb
  have HPA := Aside0.mk hA
  have HPB := Aside0.mk hB
  have HL := Aside0.mk hl
  have HSZ := Aside0.mk hs
  have HTS := Aside0.mk hts
  clear hl hA hB hb0 hs hts
  go_enter Tryd.func49, Tryd.ntmps49
  go_wp2_with fail
  refine (HA.out _ HB0.out).mono ?_
  rintro e w1 ⟨rfl, hB1⟩
  have hca1 := box_keep hB1 (by simp <;> omega) HCA.out
  have hcb1 := box_keep hB1 (by simp) HCB.out
  have HB1 : Aside0 (Below w.heap.size w w1) := ⟨HB0.out.trans (hB1.mono HB0.out.size)⟩
  have hz1 : w.heap.size + 1 < w1.heap.size := by have := hB1.size; simp at this; omega
  clear hB1 hca hcb HCA HCB
  cases h2 : zipQ eqA sh sh2
  · go_wp2
    go_ret
    exact ⟨Hl.bret (by unfold sameP; rw [h2]; simp), HB1.out⟩
  have EQ : Aside0 (sameP sh sh2 ts ts2 = zipQ sameT ts ts2) := ⟨by unfold sameP; rw [h2]; rfl⟩
  by_cases hlen : ¬ ts.length = ts2.length
  · have hq : ((ts.length : Int) == (ts2.length : Int)) = false := by simp; omega
    have HNE := Aside0.mk (zipQ_ne sameT ts ts2 hlen)
    clear hlen
    go_wp2
    go_ret
    exact ⟨Hl.bret (by rw [EQ.out, HNE.out]), HB1.out⟩
  replace hlen := Decidable.not_not.1 hlen
  have hq : ((ts.length : Int) == (ts2.length : Int)) = true := by simp; omega
  have HCA1 := Aside0.mk hca1
  have HCB1 := Aside0.mk hcb1
  have HLEN := Aside0.mk hlen
  have HZ1 := Aside0.mk hz1
  clear hlen
  go_wp2
  clear hca1 hcb1 hq
  go_loopw [5, 6, 7, 8] (fun v _ _ _ wr => ∃ k : Nat, k ≤ ts.length ∧ v = .int .i64 k ∧ Aside0 (Below w1.heap.size w1 wr ∧ zipQ sameT ts ts2 = zipQ sameT (ts.drop k) (ts2.drop k))) (fun v _ _ _ _ => ts.length - (intOf v).toNat)
  case atStart => exact ⟨0, Nat.zero_le _, rfl, ⟨⟨Below.refl _ _, rfl⟩⟩⟩
  case round =>
    obtain ⟨k, hk, rfl, HB⟩ := hrel
    have hca1 := box_keep HB.out.1 (show w.heap.size < w1.heap.size by omega) HCA1.out
    have hcb1 := box_keep HB.out.1 hz1 HCB1.out
    have HBW : Aside0 (Below w.heap.size w wr) := ⟨HB1.out.trans (HB.out.1.mono HB1.out.size)⟩
    by_cases hlt : k < ts.length
    · have hlt2 : k < ts2.length := by have := HLEN.out; omega
      have HD := Aside0.mk (zipQ_drop sameT ts ts2 k hlt hlt2)
      have hrx : rd_T65 ts (k : Int) = ts[k] := rdT hlt
      have hry : rd_T65 ts2 (k : Int) = ts2[k] := rdT hlt2
      have HM := Aside0.mk (List.getElem_mem hlt)
      have HLX := Aside0.mk (HL.out.2 _ HM.out)
      have HSX := Aside0.mk (HSZ.out _ HM.out)
      obtain ⟨ad, X2, x2, X3, x3, X7, x7, rfl, g0, g1, g2, g3, g4, g5, g6, g7, l2, C2, l3, C3, l7, C7⟩ := at_T65 (HPA.out.below HBW.out).C1 (k : Int) (by omega) (by omega)
      simp only [Int.toNat_natCast] at g0 g1 g2 g3 g4 g5 g6 g7
      rw [hrx] at g0 g1 g2 g3 g4 g5 g6 g7 l2 C2 l3 C3 l7 C7
      generalize ts[k] = x at *
      obtain ⟨ad2, Y2, y2, Y3, y3, Y7, y7, rfl, k0, k1, k2, k3, k4, k5, k6, k7, m2, D2, m3, D3, m7, D7⟩ := at_T65 (HPB.out.below HBW.out).C1 (k : Int) (by omega) (by omega)
      simp only [Int.toNat_natCast] at k0 k1 k2 k3 k4 k5 k6 k7
      rw [hry] at k0 k1 k2 k3 k4 k5 k6 k7 m2 D2 m3 D3 m7 D7
      generalize ts2[k] = y at *
      have HX : Aside0 (AtT _ x X2 x2 X3 x3 X7 x7) := ⟨⟨l2, C2, l3, C3, C7, l7⟩⟩
      have HY : Aside0 (AtT _ y Y2 y2 Y3 y3 Y7 y7) := ⟨⟨m2, D2, m3, D3, D7, m7⟩⟩
      have HGX : Aside0 (∀ w', Below wr.heap.size wr w' → w'.cell? (ad.add (k * 8)) = some (.string x.f0) ∧ w'.cell? ⟨(ad.add (k * 8)).block, (ad.add (k * 8)).off + 1, none⟩ = some (.int .i64 x.f1) ∧ w'.cell? ⟨(ad.add (k * 8)).block, (ad.add (k * 8)).off + 2, none⟩ = some (.slice X2 x.f2.length x2) ∧ w'.cell? ⟨(ad.add (k * 8)).block, (ad.add (k * 8)).off + 3, none⟩ = some (.slice X3 x.f3.length x3) ∧ w'.cell? ⟨(ad.add (k * 8)).block, (ad.add (k * 8)).off + 4, none⟩ = some (.int .u8 x.f4.f0) ∧ w'.cell? ⟨(ad.add (k * 8)).block, (ad.add (k * 8)).off + 5, none⟩ = some (.int .i64 x.f4.f1) ∧ w'.cell? ⟨(ad.add (k * 8)).block, (ad.add (k * 8)).off + 6, none⟩ = some (.string x.f4.f2) ∧ w'.cell? ⟨(ad.add (k * 8)).block, (ad.add (k * 8)).off + 7, none⟩ = some (.slice X7 x.f4.f3.length x7)) := ⟨fun w' h => ⟨pw_cell_below h g0, pw_cell_below h g1, pw_cell_below h g2, pw_cell_below h g3, pw_cell_below h g4, pw_cell_below h g5, pw_cell_below h g6, pw_cell_below h g7⟩⟩
      have HGY : Aside0 (∀ w', Below wr.heap.size wr w' → w'.cell? (ad2.add (k * 8)) = some (.string y.f0) ∧ w'.cell? ⟨(ad2.add (k * 8)).block, (ad2.add (k * 8)).off + 1, none⟩ = some (.int .i64 y.f1) ∧ w'.cell? ⟨(ad2.add (k * 8)).block, (ad2.add (k * 8)).off + 2, none⟩ = some (.slice Y2 y.f2.length y2) ∧ w'.cell? ⟨(ad2.add (k * 8)).block, (ad2.add (k * 8)).off + 3, none⟩ = some (.slice Y3 y.f3.length y3) ∧ w'.cell? ⟨(ad2.add (k * 8)).block, (ad2.add (k * 8)).off + 4, none⟩ = some (.int .u8 y.f4.f0) ∧ w'.cell? ⟨(ad2.add (k * 8)).block, (ad2.add (k * 8)).off + 5, none⟩ = some (.int .i64 y.f4.f1) ∧ w'.cell? ⟨(ad2.add (k * 8)).block, (ad2.add (k * 8)).off + 6, none⟩ = some (.string y.f4.f2) ∧ w'.cell? ⟨(ad2.add (k * 8)).block, (ad2.add (k * 8)).off + 7, none⟩ = some (.slice Y7 y.f4.f3.length y7)) := ⟨fun w' h => ⟨pw_cell_below h k0, pw_cell_below h k1, pw_cell_below h k2, pw_cell_below h k3, pw_cell_below h k4, pw_cell_below h k5, pw_cell_below h k6, pw_cell_below h k7⟩⟩
      have HCA2 := Aside0.mk hca1
      have HCB2 := Aside0.mk hcb1
      have hzr : w.heap.size + 1 < wr.heap.size := Nat.lt_of_lt_of_le hz1 HB.out.1.size
      have HBA : Aside0 (∀ w', Below wr.heap.size wr w' → ∀ j, w'.cell? ⟨w.heap.size, j, none⟩ = #[Value.slice A0 sh.length c0, .slice (some ad) ts.length c1][j]?) := ⟨fun w' h => box_keep h (by omega) HCA2.out⟩
      have HBB : Aside0 (∀ w', Below wr.heap.size wr w' → ∀ j, w'.cell? ⟨w.heap.size + 1, j, none⟩ = #[Value.slice B0 sh2.length d0, .slice (some ad2) ts2.length d1][j]?) := ⟨fun w' h => box_keep h hzr HCB2.out⟩
      clear g0 g1 g2 g3 g4 g5 g6 g7 k0 k1 k2 k3 k4 k5 k6 k7 l2 C2 l3 C3 C7 l7 m2 D2 m3 D3 D7 m7 hrx hry hlt2
      go_wp2
      obtain ⟨R6, HR6⟩ : ∃ R : Act → World → Prop, Aside0 (R = fun a W' => ∃ b6 b7 e31 e32 e33 e34 e35 e36 e37 e38 e39 e40, a = { tmps := #[.agg #[.slice A0 sh.length c0, .slice (some ad) ts.length c1], .agg #[.slice B0 sh2.length d0, .slice (some ad2) ts2.length d1], .pointer (some ⟨w.heap.size, 0, none⟩), .pointer (some ⟨w.heap.size + 1, 0, none⟩), u4, .int .i64 k, .pointer (some ⟨b6, 0, none⟩), .pointer (some ⟨b7, 0, none⟩), u8, .pointer (some ⟨w.heap.size, 0, none⟩), .slice A0 sh.length c0, .pointer (some ⟨w.heap.size + 1, 0, none⟩), .slice B0 sh2.length d0, .bool true, .bool false, .bool false, .pointer (some ⟨w.heap.size, 1, none⟩), .slice (some ad) ts.length c1, .int .i64 ts.length, .pointer (some ⟨w.heap.size + 1, 1, none⟩), .slice (some ad2) ts2.length d1, .int .i64 ts2.length, .bool false, .bool false, .int .i64 k, .pointer (some ⟨w.heap.size, 1, none⟩), .slice (some ad) ts.length c1, .int .i64 ts.length, .bool true, u29, u30, e31, e32, e33, e34, e35, e36, e37, e38, e39, e40, u41, u42, u43, u44, u45, u46, u47, u48, u49, u50, u51, u52, u53, u54, u55, u56, u57, u58, u59, u60, u61, u62, u63, u64, u65, u66, u67, u68, u69, u70, u71, u72, u73, u74, u75, u76, u77, u78, u79, u80, u81, u82, u83, u84, u85, u86, u87, u88, u89, u90, u91, u92, u93, u94, u95], defers := [] } ∧ Below wr.heap.size wr W' ∧ (∀ j, W'.cell? ⟨b6, j, none⟩ = (tskC x X2 x2 X3 x3 X7 x7)[j]?) ∧ (∀ j, W'.cell? ⟨b7, j, none⟩ = (tskC y Y2 y2 Y3 y3 Y7 y7)[j]?) ∧ b6 < W'.heap.size ∧ b7 < W'.heap.size) := ⟨_, ⟨rfl⟩⟩
      refine region_held_cut R6 (fun w' => Below wr.heap.size wr w') (by kernel_rfl) (Below.refl _ _).drew ?after6 ?inside6
      case after6 =>
        intro a W6 h
        rw [HR6.out] at h
        obtain ⟨b6, b7, e31, e32, e33, e34, e35, e36, e37, e38, e39, e40, rfl, hBW, hx6, hy7, hl6, hl7⟩ := h
        clear HR6
        have HBX := Aside0.mk hBW
        have HX6 := Aside0.mk hx6
        have HY7 := Aside0.mk hy7
        clear hBW
        have HFB : Aside0 (∀ w', Below W6.heap.size W6 w' → Below wr.heap.size wr w') := ⟨fun w' h => HBX.out.trans (h.mono HBX.out.size)⟩
        have HFW : Aside0 (∀ w', Below wr.heap.size wr w' → Below w.heap.size w w') := ⟨fun w' h => HBW.out.trans (h.mono HBW.out.size)⟩
        have HLA : Aside0 (∀ w', Below wr.heap.size wr w' → Calls Tryd.prog 102 #[.slice X3 x.f3.length x3, .slice Y3 y.f3.length y3] w' fun e w'' => e = .returned (.bool (zipQ eqA x.f3 y.f3)) ∧ Below w'.heap.size w' w'') := ⟨fun w' h => rListN x.f3 y.f3 X3 x3 Y3 y3 w' HLX.out.2 HX.out.l3 HY.out.l3 (HX.out.below h).C3 (HY.out.below h).C3⟩
        have HEA : Aside0 (∀ w', Below wr.heap.size wr w' → Calls Tryd.prog 38 #[nodeV x.f4 X7 x7, nodeV y.f4 Y7 y7] w' fun e w'' => e = .returned (.bool (eqN x.f4 y.f4)) ∧ Below w'.heap.size w' w'') := ⟨fun w' h => rEqual x.f4 y.f4 HSX.out X7 Y7 x7 y7 w' (HX.out.below h).body (HY.out.below h).body⟩
        have ERR : Aside0 (sameT x y = false → sameP sh sh2 ts ts2 = false) := ⟨fun h => by rw [EQ.out, HB.out.2, HD.out, h]; rfl⟩
        by_cases p0 : ¬ (x.f0.toList == y.f0.toList) = true
        · have q0 : (x.f0.toList == y.f0.toList) = false := by simpa using p0
          have Q0 := Aside0.mk q0
          go_wp2
          all_goals (try contradiction)
          all_goals go_ret
          all_goals exact ⟨Hl.bret (ERR.out (by unfold sameT eqS; rw [Q0.out]; simp)).symm, HFW.out _ HBX.out⟩
        replace p0 := Decidable.not_not.1 p0
        have P0 := Aside0.mk p0
        by_cases p1 : ¬ (x.f1 == y.f1) = true
        · have q0 : (x.f1 == y.f1) = false := by simpa using p1
          have q1 : ¬ x.f1 = y.f1 := by simpa using p1
          have Q0 := Aside0.mk q0
          go_wp2
          all_goals (try contradiction)
          all_goals go_ret
          all_goals exact ⟨Hl.bret (ERR.out (by unfold sameT eqS; rw [P0.out, Q0.out]; simp)).symm, HFW.out _ HBX.out⟩
        replace p1 := Decidable.not_not.1 p1
        have EQX : Aside0 (sameT x y = (zipQ eqS x.f2 y.f2 && zipQ eqA x.f3 y.f3 && eqN x.f4 y.f4)) := ⟨by unfold sameT; rw [show eqS x.f0 y.f0 = true from p0, p1]; simp⟩
        by_cases p2 : ¬ x.f2.length = y.f2.length
        · have q0 : ((x.f2.length : Int) == (y.f2.length : Int)) = false := by simp; omega
          have q1 : ¬ (x.f2.length : Int) = (y.f2.length : Int) := by omega
          have q3 : ¬ x.f2.length = y.f2.length := p2
          have Q2 := Aside0.mk (zipQ_ne eqS x.f2 y.f2 p2)
          clear p2
          go_wp2
          all_goals (try contradiction)
          all_goals go_ret
          all_goals exact ⟨Hl.bret (ERR.out (by rw [EQX.out, Q2.out]; rfl)).symm, HFW.out _ HBX.out⟩
        replace p2 := Decidable.not_not.1 p2
        have q2 : ((x.f2.length : Int) == (y.f2.length : Int)) = true := by simp; omega
        have q1 : x.f1 = y.f1 := by simpa using p1
        have q3 : ((x.f2.length : Int) != (y.f2.length : Int)) = false := by simp; omega
        have P2 := Aside0.mk p2
        clear p2
        go_wp2_with fail
        refine (HLA.out _ HBX.out).mono ?_
        rintro e w6 ⟨rfl, hB6⟩
        have hx7 := box_keep hB6 hl6 hx6
        have hy7' := box_keep hB6 hl7 hy7
        have HB6 := Aside0.mk hB6
        have hl6' := Nat.lt_of_lt_of_le hl6 hB6.size
        have hl7' := Nat.lt_of_lt_of_le hl7 hB6.size
        clear hB6 hx6 hy7 hl6 hl7
        cases h3 : zipQ eqA x.f3 y.f3
        · go_wp2
          go_ret
          exact ⟨Hl.bret (ERR.out (by rw [EQX.out, h3]; simp)).symm, HFW.out _ (HFB.out _ HB6.out)⟩
        go_wp2_with fail
        refine (HEA.out _ (HFB.out _ HB6.out)).mono ?_
        rintro e w7 ⟨rfl, hB7⟩
        have hx8 := box_keep hB7 hl6' hx7
        have hy8 := box_keep hB7 hl7' hy7'
        have HB7 : Aside0 (Below wr.heap.size wr w7) := ⟨HFB.out _ (HB6.out.trans (hB7.mono HB6.out.size))⟩
        have HX8 := Aside0.mk hx8
        have HY8 := Aside0.mk hy8
        have hl6 := Nat.lt_of_lt_of_le hl6' hB7.size
        have hl7 := Nat.lt_of_lt_of_le hl7' hB7.size
        clear hB7 hx7 hy7' hl6' hl7'
        cases h4 : eqN x.f4 y.f4
        · go_wp2
          go_ret
          exact ⟨Hl.bret (ERR.out (by rw [EQX.out, h4]; simp)).symm, HFW.out _ HB7.out⟩
        have EQZ : Aside0 (sameT x y = zipQ eqS x.f2 y.f2) := ⟨by rw [EQX.out, h3, h4]; simp⟩
        have HL2 := Aside0.mk HLX.out.1
        clear hx8 hy8
        go_wp2
        generalize hwq : wr = wq at *
        go_loopw [8] (fun v wz => ∃ m : Nat, m ≤ x.f2.length ∧ v = .int .i64 m ∧ Aside0 (Below w7.heap.size w7 wz ∧ zipQ eqS x.f2 y.f2 = zipQ eqS (x.f2.drop m) (y.f2.drop m))) (fun v _ => x.f2.length - (intOf v).toNat)
        case atStart => exact ⟨0, Nat.zero_le _, rfl, ⟨⟨Below.refl _ _, rfl⟩⟩⟩
        case round =>
          obtain ⟨m, hm, rfl, HZ⟩ := hrel
          have hx9 := box_keep HZ.out.1 hl6 HX8.out
          have hy9 := box_keep HZ.out.1 hl7 HY8.out
          have HBZ : Aside0 (Below wq.heap.size wq wr) := ⟨HB7.out.trans (HZ.out.1.mono HB7.out.size)⟩
          have hl22 := HL2.out
          by_cases hlm : m < x.f2.length
          · have hlm2 : m < y.f2.length := by have := P2.out; omega
            have HDM := Aside0.mk (zipQ_drop eqS x.f2 y.f2 m hlm hlm2)
            obtain ⟨pa, rfl, gs⟩ := Kd.at_string (HX.out.below HBZ.out).C2 (m : Int) (by omega) (by omega)
            obtain ⟨pb, rfl, ks⟩ := Kd.at_string (HY.out.below HBZ.out).C2 (m : Int) (by omega) (by omega)
            simp only [Int.toNat_natCast] at gs ks
            rw [rdS hlm] at gs
            rw [rdS hlm2] at ks
            generalize x.f2[m] = sx at *
            generalize y.f2[m] = sy at *
            go_wp2
            go_quiet (fail)
            cases he : (sx.toList == sy.toList)
            · go_wp2
              go_ret
              exact ⟨Hl.bret (ERR.out (by rw [EQZ.out, HZ.out.2, HDM.out]; unfold eqS; rw [he]; rfl)).symm, HFW.out _ (pw_below_drewN HBZ.out _)⟩
            · go_wp2
              go_roundw
              case rel => exact ⟨m + 1, hlm, by go_num, ⟨⟨pw_below_drewN HZ.out.1 _, by rw [HZ.out.2, HDM.out, show eqS sx sy = true from he]; rfl⟩⟩⟩
              case measure => simp [intOf]; omega
          · have ek : m = x.f2.length := by omega
            subst ek
            have hT : zipQ eqS x.f2 y.f2 = true := by have := P2.out; rw [HZ.out.2, List.drop_of_length_le (by omega), List.drop_of_length_le (by omega)]; rfl
            have HNX : Aside0 (Below w1.heap.size w1 wr ∧ zipQ sameT ts ts2 = zipQ sameT (ts.drop (k + 1)) (ts2.drop (k + 1))) := ⟨⟨HB.out.1.trans (HBZ.out.mono HB.out.1.size), by rw [HB.out.2, HD.out, EQZ.out, hT]; rfl⟩⟩
            have ht6 := HTS.out
            clear hT
            go_wp2
            have e22 : ((ts.length : Int) != (ts2.length : Int)) = false := by have := HLEN.out; simp; omega
            rw [e22]
            refine ⟨?_, ?measure⟩
            (repeat apply Exists.intro)
            refine ⟨?rel, rfl⟩
            case rel => exact ⟨k + 1, hlt, by go_num, HNX⟩
            case measure => simp [intOf]; omega
      case inside6 =>
        intro hHeld
        refine held_take 0 (v := _) rfl (by kernel_rfl) (by kernel_rfl) (by kernel_rfl) (by rfl) (by assumption) (fun w' hSw => by
          skip
          go_simp
          try with_reducible rfl) ?_
        try simp only [Act.put, List.setIfInBounds_toArray, List.set_cons_zero, List.set_cons_succ]
        refine held_take 1 (v := _) rfl (by kernel_rfl) (by kernel_rfl) (by kernel_rfl) (by rfl) (by assumption) (fun w' hSw => by
          have hn := HBA.out w' hSw 1
          simp at hn
          go_simp
          try with_reducible rfl) ?_
        try simp only [Act.put, List.setIfInBounds_toArray, List.set_cons_zero, List.set_cons_succ]
        refine held_take 2 (v := _) rfl (by kernel_rfl) (by kernel_rfl) (by kernel_rfl) (by rfl) (by assumption) (fun w' hSw => by
          skip
          go_simp
          try with_reducible rfl) ?_
        try simp only [Act.put, List.setIfInBounds_toArray, List.set_cons_zero, List.set_cons_succ]
        refine held_take 3 (v := _) rfl (by kernel_rfl) (by kernel_rfl) (by kernel_rfl) (by rfl) (by assumption) (fun w' hSw => by
          skip
          go_simp
          try with_reducible rfl) ?_
        try simp only [Act.put, List.setIfInBounds_toArray, List.set_cons_zero, List.set_cons_succ]
        refine held_take 4 (v := _) rfl (by kernel_rfl) (by kernel_rfl) (by kernel_rfl) (by rfl) (by assumption) (fun w' hSw => by
          obtain ⟨g0, g1, g2, g3, g4, g5, g6, g7⟩ := HGX.out w' hSw
          go_simp
          try with_reducible rfl) ?_
        try simp only [Act.put, List.setIfInBounds_toArray, List.set_cons_zero, List.set_cons_succ]
        refine held_take 5 (v := _) rfl (by kernel_rfl) (by kernel_rfl) (by kernel_rfl) (by rfl) (by assumption) (fun w' hSw => by
          skip
          go_simp
          try with_reducible rfl) ?_
        try simp only [Act.put, List.setIfInBounds_toArray, List.set_cons_zero, List.set_cons_succ]
        refine held_take 6 (v := _) rfl (by kernel_rfl) (by kernel_rfl) (by kernel_rfl) (by rfl) (by assumption) (fun w' hSw => by
          have hn := HBB.out w' hSw 1
          simp at hn
          go_simp
          try with_reducible rfl) ?_
        try simp only [Act.put, List.setIfInBounds_toArray, List.set_cons_zero, List.set_cons_succ]
        refine held_take 7 (v := _) rfl (by kernel_rfl) (by kernel_rfl) (by kernel_rfl) (by rfl) (by assumption) (fun w' hSw => by
          skip
          go_simp
          try with_reducible rfl) ?_
        try simp only [Act.put, List.setIfInBounds_toArray, List.set_cons_zero, List.set_cons_succ]
        refine held_take 8 (v := _) rfl (by kernel_rfl) (by kernel_rfl) (by kernel_rfl) (by rfl) (by assumption) (fun w' hSw => by
          have hlt2 : k < ts2.length := by have := HLEN.out; omega
          go_simp
          try with_reducible rfl) ?_
        try simp only [Act.put, List.setIfInBounds_toArray, List.set_cons_zero, List.set_cons_succ]
        refine held_take 9 (v := _) rfl (by kernel_rfl) (by kernel_rfl) (by kernel_rfl) (by rfl) (by assumption) (fun w' hSw => by
          obtain ⟨g0, g1, g2, g3, g4, g5, g6, g7⟩ := HGY.out w' hSw
          go_simp
          try with_reducible rfl) ?_
        try simp only [Act.put, List.setIfInBounds_toArray, List.set_cons_zero, List.set_cons_succ]
        refine wpAnyH_ready (rs := [10, 11]) (by kernel_rfl) (by simp) ?_
        refine held_cons rfl (by rfl) (fun K hK => ?_) ?_
        · have hs := hHeld.size
          unfold Oper.wp
          go_simp
          refine hK.out _ _ (hHeld.alloc hHeld.size _) (fun hHeld => ?_)
          clear hK K
          try simp only [Act.put, List.setIfInBounds_toArray, List.set_cons_zero, List.set_cons_succ]
          refine held_world (fun V' => Below wr.heap.size wr V' ∧ BoxAt wr.heap.size V' wr.heap.size #[Value.string ⟨#[]⟩, .int .i64 0, .slice none 0 0, .slice none 0 0, .int .u8 0, .int .i64 0, .string ⟨#[]⟩, .slice none 0 0]) ⟨hHeld, BoxAt.new hs _ _⟩ (fun V1 hV => ?_)
          obtain ⟨hHeld, hb6⟩ := hV
          refine wpAnyH_ready (rs := [11]) (by kernel_rfl) (by simp) ?_
          refine held_cons rfl (by rfl) (fun K hK => ?_) ?_
          · have hs := hHeld.size
            unfold Oper.wp
            go_simp
            refine hK.out _ _ (hHeld.alloc hHeld.size _) (fun hHeld => ?_)
            clear hK K
            try simp only [Act.put, List.setIfInBounds_toArray, List.set_cons_zero, List.set_cons_succ]
            refine held_world (fun V' => Below wr.heap.size wr V' ∧ BoxAt wr.heap.size V' V1.heap.size #[Value.string ⟨#[]⟩, .int .i64 0, .slice none 0 0, .slice none 0 0, .int .u8 0, .int .i64 0, .string ⟨#[]⟩, .slice none 0 0] ∧ BoxAt wr.heap.size V' wr.heap.size #[Value.string ⟨#[]⟩, .int .i64 0, .slice none 0 0, .slice none 0 0, .int .u8 0, .int .i64 0, .string ⟨#[]⟩, .slice none 0 0] ∧ wr.heap.size ≠ V1.heap.size) ⟨hHeld, BoxAt.new hs _ _, hb6.alloc _, Nat.ne_of_lt hb6.lt⟩ (fun V2 hV => ?_)
            obtain ⟨hHeld, hb7, hb6, hne⟩ := hV
            refine wpAnyH_ready (rs := [12]) (by kernel_rfl) (by simp) ?_
            refine held_cons rfl (by rfl) (fun K hK => ?_) ?_
            · unfold Oper.wp
              have hz := hb6.cells
              have hzf := hb6.fz
              go_simp
              refine hK.out _ _ (hHeld.trans (set8_below _ hb6.ge _ _ _ _ _ _ _ _)) (fun hHeld => ?_)
              clear hK K
              try simp only [Act.put, List.setIfInBounds_toArray, List.set_cons_zero, List.set_cons_succ]
              refine held_world (fun V' => Below wr.heap.size wr V' ∧ BoxAt wr.heap.size V' wr.heap.size (tskC x X2 x2 X3 x3 X7 x7) ∧ BoxAt wr.heap.size V' V1.heap.size #[Value.string ⟨#[]⟩, .int .i64 0, .slice none 0 0, .slice none 0 0, .int .u8 0, .int .i64 0, .string ⟨#[]⟩, .slice none 0 0] ∧ True) ⟨hHeld, hb6.put _ _ _ _ _ _ _ _, hb7.far (by first | exact hne | exact hne.symm) _ _ _ _ _ _ _ _, trivial⟩ (fun V3 hV => ?_)
              obtain ⟨hHeld, hb6, hb7, _⟩ := hV
              refine wpAnyH_ready (rs := [13]) (by kernel_rfl) (by simp) ?_
              refine held_cons rfl (by rfl) (fun K hK => ?_) ?_
              · unfold Oper.wp
                have hz := hb7.cells
                have hzf := hb7.fz
                go_simp
                refine hK.out _ _ (hHeld.trans (set8_below _ hb7.ge _ _ _ _ _ _ _ _)) (fun hHeld => ?_)
                clear hK K
                try simp only [Act.put, List.setIfInBounds_toArray, List.set_cons_zero, List.set_cons_succ]
                refine held_world (fun V' => Below wr.heap.size wr V' ∧ BoxAt wr.heap.size V' V1.heap.size (tskC y Y2 y2 Y3 y3 Y7 y7) ∧ BoxAt wr.heap.size V' wr.heap.size (tskC x X2 x2 X3 x3 X7 x7) ∧ True) ⟨hHeld, hb7.put _ _ _ _ _ _ _ _, hb6.far (by first | exact hne | exact hne.symm) _ _ _ _ _ _ _ _, trivial⟩ (fun V4 hV => ?_)
                obtain ⟨hHeld, hb7, hb6, _⟩ := hV
                refine wpAnyH_done (by kernel_rfl) ?_ _
                show R6 _ _
                rw [HR6.out]
                exact ⟨_, _, _, _, _, _, _, _, _, _, _, _, rfl, hHeld, hb6.cells, hb7.cells, hb6.lt, hb7.lt⟩

              exact AllReadyH.nil

            exact AllReadyH.nil

          exact AllReadyH.nil

        refine held_cons rfl (by rfl) (fun K hK => ?_) ?_
        · have hs := hHeld.size
          unfold Oper.wp
          go_simp
          refine hK.out _ _ (hHeld.alloc hHeld.size _) (fun hHeld => ?_)
          clear hK K
          try simp only [Act.put, List.setIfInBounds_toArray, List.set_cons_zero, List.set_cons_succ]
          refine held_world (fun V' => Below wr.heap.size wr V' ∧ BoxAt wr.heap.size V' wr.heap.size #[Value.string ⟨#[]⟩, .int .i64 0, .slice none 0 0, .slice none 0 0, .int .u8 0, .int .i64 0, .string ⟨#[]⟩, .slice none 0 0]) ⟨hHeld, BoxAt.new hs _ _⟩ (fun V1 hV => ?_)
          obtain ⟨hHeld, hb7⟩ := hV
          refine wpAnyH_ready (rs := [10]) (by kernel_rfl) (by simp) ?_
          refine held_cons rfl (by rfl) (fun K hK => ?_) ?_
          · have hs := hHeld.size
            unfold Oper.wp
            go_simp
            refine hK.out _ _ (hHeld.alloc hHeld.size _) (fun hHeld => ?_)
            clear hK K
            try simp only [Act.put, List.setIfInBounds_toArray, List.set_cons_zero, List.set_cons_succ]
            refine held_world (fun V' => Below wr.heap.size wr V' ∧ BoxAt wr.heap.size V' V1.heap.size #[Value.string ⟨#[]⟩, .int .i64 0, .slice none 0 0, .slice none 0 0, .int .u8 0, .int .i64 0, .string ⟨#[]⟩, .slice none 0 0] ∧ BoxAt wr.heap.size V' wr.heap.size #[Value.string ⟨#[]⟩, .int .i64 0, .slice none 0 0, .slice none 0 0, .int .u8 0, .int .i64 0, .string ⟨#[]⟩, .slice none 0 0] ∧ wr.heap.size ≠ V1.heap.size) ⟨hHeld, BoxAt.new hs _ _, hb7.alloc _, Nat.ne_of_lt hb7.lt⟩ (fun V2 hV => ?_)
            obtain ⟨hHeld, hb6, hb7, hne⟩ := hV
            refine wpAnyH_ready (rs := [12]) (by kernel_rfl) (by simp) ?_
            refine held_cons rfl (by rfl) (fun K hK => ?_) ?_
            · unfold Oper.wp
              have hz := hb6.cells
              have hzf := hb6.fz
              go_simp
              refine hK.out _ _ (hHeld.trans (set8_below _ hb6.ge _ _ _ _ _ _ _ _)) (fun hHeld => ?_)
              clear hK K
              try simp only [Act.put, List.setIfInBounds_toArray, List.set_cons_zero, List.set_cons_succ]
              refine held_world (fun V' => Below wr.heap.size wr V' ∧ BoxAt wr.heap.size V' V1.heap.size (tskC x X2 x2 X3 x3 X7 x7) ∧ BoxAt wr.heap.size V' wr.heap.size #[Value.string ⟨#[]⟩, .int .i64 0, .slice none 0 0, .slice none 0 0, .int .u8 0, .int .i64 0, .string ⟨#[]⟩, .slice none 0 0] ∧ True) ⟨hHeld, hb6.put _ _ _ _ _ _ _ _, hb7.far (by first | exact hne | exact hne.symm) _ _ _ _ _ _ _ _, trivial⟩ (fun V3 hV => ?_)
              obtain ⟨hHeld, hb6, hb7, _⟩ := hV
              refine wpAnyH_ready (rs := [13]) (by kernel_rfl) (by simp) ?_
              refine held_cons rfl (by rfl) (fun K hK => ?_) ?_
              · unfold Oper.wp
                have hz := hb7.cells
                have hzf := hb7.fz
                go_simp
                refine hK.out _ _ (hHeld.trans (set8_below _ hb7.ge _ _ _ _ _ _ _ _)) (fun hHeld => ?_)
                clear hK K
                try simp only [Act.put, List.setIfInBounds_toArray, List.set_cons_zero, List.set_cons_succ]
                refine held_world (fun V' => Below wr.heap.size wr V' ∧ BoxAt wr.heap.size V' wr.heap.size (tskC y Y2 y2 Y3 y3 Y7 y7) ∧ BoxAt wr.heap.size V' V1.heap.size (tskC x X2 x2 X3 x3 X7 x7) ∧ True) ⟨hHeld, hb7.put _ _ _ _ _ _ _ _, hb6.far (by first | exact hne | exact hne.symm) _ _ _ _ _ _ _ _, trivial⟩ (fun V4 hV => ?_)
                obtain ⟨hHeld, hb7, hb6, _⟩ := hV
                refine wpAnyH_done (by kernel_rfl) ?_ _
                show R6 _ _
                rw [HR6.out]
                exact ⟨_, _, _, _, _, _, _, _, _, _, _, _, rfl, hHeld, hb6.cells, hb7.cells, hb6.lt, hb7.lt⟩

              exact AllReadyH.nil

            exact AllReadyH.nil

          exact AllReadyH.nil

        exact AllReadyH.nil
    · have ek : k = ts.length := by omega
      subst ek
      go_wp2
      go_ret
      exact ⟨Hl.bret (by have := HLEN.out; rw [EQ.out, HB.out.2, List.drop_of_length_le (by omega), List.drop_of_length_le (by omega)]; rfl), HBW.out⟩
end Go.Proofs.YtmdbbfoejmakdaaDoor.Ha

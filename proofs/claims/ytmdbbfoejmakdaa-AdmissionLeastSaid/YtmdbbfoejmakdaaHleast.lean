/-
  The walk of the law AdmissionLeast. By this session, out of its own program (wip/gen).
-/
import Derived.Test.YtmdbbfoejmakdaaHnum4
import Derived.Deep.RegionHeld3
import Derived.Deep.DeepCutAuto
namespace Go.Proofs.Ytmdbbfoejmakdaa.Hn
open Go.RowKit Go.Proofs.YtmdbbfoejmakdaaW.PrintWords Go.Proofs.YtmdbbfoejmakdaaW.PrintMore
open Go.Proofs.Ytmdbbfoejmakdaa.Hp
set_option linter.unusedVariables false
set_option linter.unusedSimpArgs false
attribute [local go_sem] max2_int min2_int max_two min_two max_three min_three

set_option maxHeartbeats 2000000 in
theorem room (n u cy r : Int) (a1 a2 a3 : Addr) (w : World) (h1 : w.cell? a1 = some (.int .i64 u)) (h2 : w.cell? a2 = some (.int .i64 cy)) (h3 : w.cell? a3 = some (.int .i64 r)) (b1 : -2147483648 ≤ n ∧ n ≤ 2147483648) (b2 : 0 ≤ n * u ∧ n * u ≤ 72057594037927936) (b3 : 0 ≤ (n - 1) * r ∧ (n - 1) * r ≤ 72057594037927936) (b4 : 0 ≤ cy ∧ cy ≤ 1099511627776) : Calls Try.prog 16 #[.int .i64 n, .pointer (some a1), .pointer (some a2), .pointer (some a3)] w fun e w' => e = .returned (.bool (decide (cy + (n - 1) * r ≤ n * u))) ∧ Below w.heap.size w w' := by
  obtain ⟨b11, b12⟩ := b1
  obtain ⟨b21, b22⟩ := b2
  obtain ⟨b31, b32⟩ := b3
  obtain ⟨b41, b42⟩ := b4
  go_enter Try.func16, Try.ntmps16
  go_wp2
  go_ret
  exact ⟨rfl, Below.refl _ _⟩
theorem least_facts {U R cy : Int} (hu : ¬ U ≤ R) (hr : 2 ≤ R) (hU : U ≤ 16777216) (h0 : 0 ≤ cy) (h1 : cy ≤ 1073741824) :
    (1 ≤ QuV U R cy ∧ QuV U R cy ≤ 2147483647) ∧ cy + (QuV U R cy - 1) * R ≤ QuV U R cy * U ∧ (QuV U R cy = 1 ∨ ¬ cy + (QuV U R cy - 1 - 1) * R ≤ (QuV U R cy - 1) * U) ∧
    (0 ≤ QuV U R cy * U ∧ QuV U R cy * U ≤ 72057594037927936) ∧ (0 ≤ (QuV U R cy - 1) * R ∧ (QuV U R cy - 1) * R ≤ 72057594037927936) := by
  have hd : 0 < U - R := by omega
  have hQ : QuV U R cy = mx 1 ((cy - R + (U - R) - 1) / (U - R)) := rfl
  generalize QuV U R cy = Q at *
  have e1 : ∀ q : Int, q * U = q * R + q * (U - R) := fun q => by rw [← Int.mul_add]; congr 1; omega
  have e2 : (Q - 1) * R = Q * R - R := by rw [Int.sub_mul, Int.one_mul]
  have e3 : (Q - 1 - 1) * R = Q * R - R - R := by rw [Int.sub_mul, Int.sub_mul, Int.one_mul]
  have e4 : (Q - 1) * U = Q * R - R + (Q * (U - R) - (U - R)) := by rw [e1, e2, Int.sub_mul, Int.one_mul]
  have e5 := e1 Q
  have k1 := Int.ediv_mul_le (cy - R + (U - R) - 1) (b := U - R) (by omega)
  have k2 := Int.lt_ediv_add_one_mul_self (cy - R + (U - R) - 1) hd
  rw [Int.add_mul, Int.one_mul] at k2
  have k3 : (cy - R + (U - R) - 1) / (U - R) ≤ 2147483647 := by
    by_cases hn : 0 ≤ cy - R + (U - R) - 1
    · have := Int.ediv_le_self (b := U - R) hn
      omega
    · have := Int.ediv_neg_of_neg_of_pos (a := cy - R + (U - R) - 1) (by omega) hd
      omega
  unfold mx at hQ
  have q1 : 1 ≤ Q ∧ Q ≤ 2147483647 := by split at hQ <;> omega
  have p1 : Q * U ≤ 2147483647 * 16777216 := Int.mul_le_mul q1.2 hU (by omega) (by omega)
  have p2 : 0 ≤ Q * R := Int.mul_nonneg (by omega) (by omega)
  have p3 : 0 ≤ Q * (U - R) := Int.mul_nonneg (by omega) (by omega)
  have p4 : 1 * R ≤ Q * R := Int.mul_le_mul_of_nonneg_right q1.1 (by omega)
  refine ⟨q1, ?_, ?_, by omega, by omega⟩
  · by_cases hx : 1 < (cy - R + (U - R) - 1) / (U - R)
    · rw [if_pos hx] at hQ; rw [← hQ] at k2; omega
    · rw [if_neg hx] at hQ
      have k4 := Int.mul_le_mul_of_nonneg_right (show (cy - R + (U - R) - 1) / (U - R) ≤ 1 by omega) (Int.le_of_lt hd)
      rw [Int.one_mul] at k4
      subst hQ; omega
  · by_cases hx : 1 < (cy - R + (U - R) - 1) / (U - R)
    · rw [if_pos hx] at hQ; right; rw [← hQ] at k1; omega
    · rw [if_neg hx] at hQ; left; exact hQ

theorem LS_mk {w2 w W : World} {cs : Array Value} (hz : w.heap.size < w2.heap.size) (hc : ∀ j, w2.cell? ⟨w.heap.size, j, none⟩ = cs[j]?) (h : Below w2.heap.size w2 W) : (∀ j, W.cell? ⟨w.heap.size, j, none⟩ = cs[j]?) ∧ Below w2.heap.size w2 W :=
  ⟨fun j => (h.cell (p := ⟨w.heap.size, j, none⟩) hz).trans (hc j), h⟩
theorem bcell {W w1 : World} (hb : Below W.heap.size W w1) : (∀ b o, b < W.heap.size → w1.cell? ⟨b, o, none⟩ = W.cell? ⟨b, o, none⟩) ∧ (∀ b o, b < W.heap.size → w1.frozen? ⟨b, o, none⟩ = W.frozen? ⟨b, o, none⟩) :=
  ⟨fun b o h => hb.cell (p := ⟨b, o, none⟩) h, fun b o h => hb.frozen (p := ⟨b, o, none⟩) h⟩
theorem bsize {W w1 : World} (hb : Below W.heap.size W w1) : W.heap.size ≤ w1.heap.size := hb.size
theorem below_setC {B : Nat} {w W : World} (h : Below B w W) (p : Addr) (v : Value) (hle : B ≤ p.block) : Below B w (W.setCell p v) := h.setCell hle v
theorem cell_then {w2 W : World} {n : Nat} {v : Value} (h : Below w2.heap.size w2 W) (hz : n < w2.heap.size) (hd : w2.cell? ⟨n, 0, none⟩ = some v) : W.cell? ⟨n, 0, none⟩ = some v := (h.cell (p := ⟨n, 0, none⟩) hz).trans hd
theorem withF {p q : Prop} (h : p) (k : p → q) : q := k h
theorem LS_then {w2 W W' : World} (h : Below w2.heap.size w2 W) (hb : Below W.heap.size W W') : Below w2.heap.size w2 W' := h.trans (hb.mono h.size)

set_option maxHeartbeats 4000000 in
theorem lawLeast_err (co sl tr mu di ta ha is iw il ds dw dl qu ke : Int) (cy se : Int) (q e : Int) (hq : ∀ w, Calls Try.prog 7 #[.agg #[.int .i64 co, .int .i64 sl, .int .i64 tr, .int .i64 mu, .int .i64 di, .int .i64 ta, .int .i64 ha, .int .i64 is, .int .i64 iw, .int .i64 il, .int .i64 ds, .int .i64 dw, .int .i64 dl, .int .i64 qu, .int .i64 ke], .int .i64 cy, .int .i64 se] w fun e2 w' => e2 = .returned (.tuple #[.int .i64 0, .int .i64 e]) ∧ Below w.heap.size w w') (he : (e == 0) = false) (w : World) : Calls Try.prog 4 #[.agg #[.int .i64 co, .int .i64 sl, .int .i64 tr, .int .i64 mu, .int .i64 di, .int .i64 ta, .int .i64 ha, .int .i64 is, .int .i64 iw, .int .i64 il, .int .i64 ds, .int .i64 dw, .int .i64 dl, .int .i64 qu, .int .i64 ke], .int .i64 cy, .int .i64 se] w fun e w' => e = .returned (.bool true) ∧ Below w.heap.size w w' := by
  have h0 := Aside0.mk awake
  have h2 := Aside0.mk hq
  clear hq
  go_enter Try.func4, Try.ntmps4
  go_wp2_with fail
  refine (h0.out _).mono ?_
  rintro e1 w1 ⟨rfl, hB1⟩
  have HB1 := Aside0.mk hB1
  have hc1 := box_keep hB1 (by simp <;> omega) (fun j => (World.cell?_alloc_past _ _ _ (by simp)).trans (box_new w _ _ j))
  have hd1 := hB1.cell (p := ⟨w.heap.size + 1, 0, none⟩) (by simp)
  clear hB1
  go_wp2_with fail
  refine (h2.out _).mono ?_
  rintro e2 w2 ⟨rfl, hB2⟩
  have HB2 := Aside0.mk hB2
  clear hB2
  go_wp2
  go_ret
  exact ⟨rfl, ((((Below.refl w.heap.size w).alloc (Nat.le_refl _) _).alloc (by simp) _).trans (HB1.out.mono (by simp <;> omega))).trans (HB2.out.mono (by have := HB1.out.size; simp at this; omega))⟩

set_option maxHeartbeats 4000000 in
theorem lawLeast_big (co sl tr mu di ta ha is iw il ds dw dl qu ke : Int) (cy se : Int) (hM : MacB co sl tr mu di ta ha is iw il ds dw dl qu ke = true) (hc : 0 ≤ cy ∧ cy ≤ 1099511627776) (hs : 0 ≤ se ∧ se ≤ 1099511627776) (hu : ¬ UsV co sl tr mu di ta ha qu ke se ≤ ReV co sl tr is iw ds dw) (hb : 1073741824 < cy) (w : World) : Calls Try.prog 4 #[.agg #[.int .i64 co, .int .i64 sl, .int .i64 tr, .int .i64 mu, .int .i64 di, .int .i64 ta, .int .i64 ha, .int .i64 is, .int .i64 iw, .int .i64 il, .int .i64 ds, .int .i64 dw, .int .i64 dl, .int .i64 qu, .int .i64 ke], .int .i64 cy, .int .i64 se] w fun e w' => e = .returned (.bool true) ∧ Below w.heap.size w w' := by
  have h0 := Aside0.mk awake
  have h2 := Aside0.mk (quanta co sl tr mu di ta ha is iw il ds dw dl qu ke cy se hM hc hs hu)
  clear hM hc hs hu
  go_enter Try.func4, Try.ntmps4
  go_wp2_with fail
  refine (h0.out _).mono ?_
  rintro e1 w1 ⟨rfl, hB1⟩
  have HB1 := Aside0.mk hB1
  have hc1 := box_keep hB1 (by simp <;> omega) (fun j => (World.cell?_alloc_past _ _ _ (by simp)).trans (box_new w _ _ j))
  have hd1 : w1.cell? ⟨w.heap.size + 1, 0, none⟩ = some (.int .i64 cy) := (hB1.cell (p := ⟨w.heap.size + 1, 0, none⟩) (by simp)).trans (by go_simp)
  have hz1 : w.heap.size + 1 < w1.heap.size := by have := hB1.size; simp at this; omega
  clear hB1
  go_wp2_with fail
  refine (h2.out _).mono ?_
  rintro e2 w2 ⟨rfl, hB2⟩
  have HB2 := Aside0.mk hB2
  have hc2 := box_keep hB2 (by omega) hc1
  have hd2 := (hB2.cell (p := ⟨w.heap.size + 1, 0, none⟩) hz1).trans hd1
  have hz2 : w.heap.size + 1 < w2.heap.size := by have := hB2.size; omega
  clear hB2 hc1 hd1
  go_wp2
  go_ret
  exact ⟨rfl, ((((Below.refl w.heap.size w).alloc (Nat.le_refl _) _).alloc (by simp) _).trans (HB1.out.mono (by simp <;> omega))).trans (HB2.out.mono (by omega))⟩

set_option maxHeartbeats 4000000 in
theorem lawLeast_main (co sl tr mu di ta ha is iw il ds dw dl qu ke : Int) (cy se : Int) (hM : MacB co sl tr mu di ta ha is iw il ds dw dl qu ke = true) (hc : 0 ≤ cy ∧ cy ≤ 1099511627776) (hs : 0 ≤ se ∧ se ≤ 1099511627776) (hu : ¬ UsV co sl tr mu di ta ha qu ke se ≤ ReV co sl tr is iw ds dw) (hb : cy ≤ 1073741824) (w : World) : Calls Try.prog 4 #[.agg #[.int .i64 co, .int .i64 sl, .int .i64 tr, .int .i64 mu, .int .i64 di, .int .i64 ta, .int .i64 ha, .int .i64 is, .int .i64 iw, .int .i64 il, .int .i64 ds, .int .i64 dw, .int .i64 dl, .int .i64 qu, .int .i64 ke], .int .i64 cy, .int .i64 se] w fun e w' => e = .returned (.bool true) ∧ Below w.heap.size w w' := by
  have h0 := Aside0.mk awake
  have h2 := Aside0.mk (quanta co sl tr mu di ta ha is iw il ds dw dl qu ke cy se hM hc hs hu)
  have h3 := Aside0.mk (useful co sl tr mu di ta ha is iw il ds dw dl qu ke se hM hs)
  have h4 := Aside0.mk (reload co sl tr mu di ta ha is iw il ds dw dl qu ke hM)
  obtain ⟨u1, u2⟩ := us_bounds co sl tr mu di ta ha is iw il ds dw dl qu ke hM hs.1 hs.2
  obtain ⟨_, _, r1, r2⟩ := re_bounds co sl tr mu di ta ha is iw il ds dw dl qu ke hM
  obtain ⟨c1, c2⟩ := hc
  clear hM hs
  generalize UsV co sl tr mu di ta ha qu ke se = U at *
  generalize ReV co sl tr is iw ds dw = R at *
  obtain ⟨⟨q1, q2⟩, lf1, lf2, lf3, lf4⟩ := least_facts hu r1 u2 c1 hb
  generalize QuV U R cy = Q at *
  have LF1 := Aside0.mk lf1
  have LF2 := Aside0.mk lf2
  have LF3 := Aside0.mk lf3
  have LF4 := Aside0.mk lf4
  clear lf1 lf2 lf3 lf4
  go_enter Try.func4, Try.ntmps4
  go_wp2_with fail
  refine (h0.out _).mono ?_
  rintro e1 w1 ⟨rfl, hB1⟩
  have HB1 := Aside0.mk hB1
  have hc1 := box_keep hB1 (by simp <;> omega) (fun j => (World.cell?_alloc_past _ _ _ (by simp)).trans (box_new w _ _ j))
  have hd1 : w1.cell? ⟨w.heap.size + 1, 0, none⟩ = some (.int .i64 cy) := (hB1.cell (p := ⟨w.heap.size + 1, 0, none⟩) (by simp)).trans (by go_simp)
  have hz1 : w.heap.size + 1 < w1.heap.size := by have := hB1.size; simp at this; omega
  clear hB1
  go_wp2_with fail
  refine (h2.out _).mono ?_
  rintro e2 w2 ⟨rfl, hB2⟩
  have HB2 := Aside0.mk hB2
  have hc2 := box_keep hB2 (by omega) hc1
  have hd2 := (hB2.cell (p := ⟨w.heap.size + 1, 0, none⟩) hz1).trans hd1
  have hz2 : w.heap.size + 1 < w2.heap.size := by have := hB2.size; omega
  clear hB2 hc1 hd1
  have hS0 := Below.refl w2.heap.size w2
  have hz3 : w.heap.size < w2.heap.size := by omega
  go_upto_region 8 with fail
  go_cut [9, 10] (fun s9 s10 wx => ∃ p q : Nat, s9 = .pointer (some ⟨p, 0, none⟩) ∧ s10 = .pointer (some ⟨q, 0, none⟩) ∧ wx.cell? ⟨p, 0, none⟩ = some (.int .i64 U) ∧ wx.cell? ⟨q, 0, none⟩ = some (.int .i64 R) ∧ wx.cell? ⟨w.heap.size + 1, 0, none⟩ = some (.int .i64 cy) ∧ Below w2.heap.size w2 wx)
  case first =>
    go_region_held3 (fun w' => (∀ j, w'.cell? ⟨w.heap.size, j, none⟩ = (#[.int .i64 co, .int .i64 sl, .int .i64 tr, .int .i64 mu, .int .i64 di, .int .i64 ta, .int .i64 ha, .int .i64 is, .int .i64 iw, .int .i64 il, .int .i64 ds, .int .i64 dw, .int .i64 dl, .int .i64 qu, .int .i64 ke] : Array Value)[j]?) ∧ Below w2.heap.size w2 w')
      (exact LS_mk hz3 hc2 (by (repeat (first | exact hS0 | assumption | apply below_drew | apply below_alloc | (refine below_setC ?_ _ _ ?_; rotate_left; (focus (dsimp only; omega)))))))
      (first | (go_at_call 10; refine (h3.out _).mono ?_; rintro e w7 ⟨rfl, hb⟩; have hbb := LS_then (by (repeat (first | exact hS0 | assumption | apply below_drew | apply below_alloc | (refine below_setC ?_ _ _ ?_; rotate_left; (focus (dsimp only; omega)))))) hb; have hbz := hb.size; (try (refine withF (hb.cell (p := ⟨w2.heap.size, 0, none⟩) ?_) ?_; (focus (first | (simp; done) | (simp; omega) | omega)); intro hbc0)); (try (refine withF (hb.frozen (p := ⟨w2.heap.size, 0, none⟩) ?_) ?_; (focus (first | (simp; done) | (simp; omega) | omega)); intro hbf0)); (try (refine withF (hb.cell (p := ⟨w2.heap.size + 1, 0, none⟩) ?_) ?_; (focus (first | (simp; done) | (simp; omega) | omega)); intro hbc1)); (try (refine withF (hb.frozen (p := ⟨w2.heap.size + 1, 0, none⟩) ?_) ?_; (focus (first | (simp; done) | (simp; omega) | omega)); intro hbf1)); (try simp only [World.size_alloc, World.size_drew] at hbz); (try (refine withF (p := w2.heap.size < w7.heap.size) ?_ ?_; (focus omega); intro hbz0)); (try (refine withF (p := w2.heap.size + 1 < w7.heap.size) ?_ ?_; (focus omega); intro hbz1))) | (go_at_call 8; refine (h4.out _).mono ?_; rintro e w8 ⟨rfl, hd⟩; have hdd := LS_then (by (repeat (first | exact hS0 | assumption | apply below_drew | apply below_alloc | (refine below_setC ?_ _ _ ?_; rotate_left; (focus (dsimp only; omega)))))) hd; have hdz := hd.size; (try (refine withF (hd.cell (p := ⟨w7.heap.size, 0, none⟩) ?_) ?_; (focus (first | (simp; done) | (simp; omega) | omega)); intro hdc0)); (try (refine withF (hd.frozen (p := ⟨w7.heap.size, 0, none⟩) ?_) ?_; (focus (first | (simp; done) | (simp; omega) | omega)); intro hdf0)); (try (refine withF (hd.cell (p := ⟨w7.heap.size + 1, 0, none⟩) ?_) ?_; (focus (first | (simp; done) | (simp; omega) | omega)); intro hdc1)); (try (refine withF (hd.frozen (p := ⟨w7.heap.size + 1, 0, none⟩) ?_) ?_; (focus (first | (simp; done) | (simp; omega) | omega)); intro hdf1)); (try (refine withF (hd.cell (p := ⟨w2.heap.size, 0, none⟩) ?_) ?_; (focus (first | (simp; done) | (simp; omega) | omega)); intro hdc2)); (try (refine withF (hd.frozen (p := ⟨w2.heap.size, 0, none⟩) ?_) ?_; (focus (first | (simp; done) | (simp; omega) | omega)); intro hdf2)); (try (refine withF (hd.cell (p := ⟨w2.heap.size + 1, 0, none⟩) ?_) ?_; (focus (first | (simp; done) | (simp; omega) | omega)); intro hdc3)); (try (refine withF (hd.frozen (p := ⟨w2.heap.size + 1, 0, none⟩) ?_) ?_; (focus (first | (simp; done) | (simp; omega) | omega)); intro hdf3)); (try simp only [World.size_alloc, World.size_drew] at hdz); (try (refine withF (p := w7.heap.size < w8.heap.size) ?_ ?_; (focus omega); intro hdz0)); (try (refine withF (p := w7.heap.size + 1 < w8.heap.size) ?_ ?_; (focus omega); intro hdz1)); (try (refine withF (p := w2.heap.size < w8.heap.size) ?_ ?_; (focus omega); intro hdz2)); (try (refine withF (p := w2.heap.size + 1 < w8.heap.size) ?_ ?_; (focus omega); intro hdz3))))
    all_goals go_wp2_with fail
    all_goals go_meet
    all_goals refine ⟨_, _, rfl, rfl, ?_, ?_, ?_, ?_⟩
    all_goals first | (go_simp; done) | (refine cell_then ?_ hz2 hd2; (repeat (first | exact hS0 | assumption | apply below_drew | apply below_alloc | (refine below_setC ?_ _ _ ?_; rotate_left; (focus (dsimp only; omega)))))) | (repeat (first | exact hS0 | assumption | apply below_drew | apply below_alloc | (refine below_setC ?_ _ _ ?_; rotate_left; (focus (dsimp only; omega)))))
  case rest =>
    obtain ⟨p, q, rfl, rfl, e1, e2, e3, hB3⟩ := hcut
    have HB3 := Aside0.mk hB3
    have hl1 := World.block_lt_of_cell? wc _ e1
    have hl2 := World.block_lt_of_cell? wc _ e2
    have hl3 := World.block_lt_of_cell? wc _ e3
    have ht := decide_eq_true LF1.out
    have HT := Aside0.mk ht
    clear hB3 ht hc2 hd2
    go_wp2_with fail
    refine (room Q U cy R _ _ _ wc e1 e3 e2 ⟨by omega, by omega⟩ LF3.out LF4.out ⟨by omega, by omega⟩).mono ?_
    rintro e w4 ⟨rfl, hB4⟩
    rw [HT.out]
    have HB4 := Aside0.mk hB4
    have f1 := (hB4.cell (p := ⟨p, 0, none⟩) hl1).trans e1
    have f2 := (hB4.cell (p := ⟨q, 0, none⟩) hl2).trans e2
    have f3 := (hB4.cell (p := ⟨w.heap.size + 1, 0, none⟩) hl3).trans e3
    clear hB4 e1 e2 e3
    by_cases hq1 : Q = 1
    · subst hq1
      go_wp2
      go_ret
      exact ⟨rfl, ((((((Below.refl w.heap.size w).alloc (Nat.le_refl _) _).alloc (by simp) _).trans (HB1.out.mono (by simp <;> omega))).trans (HB2.out.mono (by omega))).trans (HB3.out.mono (by omega))).trans (HB4.out.mono (by omega))⟩
    · have hqb : ((Q : Int) == 1) = false := by simpa using hq1
      have ht2 : decide (cy + (Q - 1 - 1) * R ≤ (Q - 1) * U) = false := decide_eq_false (by have := LF2.out; omega)
      have HT2 := Aside0.mk ht2
      have b5 : 0 ≤ (Q - 1) * U ∧ (Q - 1) * U ≤ 72057594037927936 := by
        have h5 := LF3.out
        have h6 : (Q - 1) * U = Q * U - U := by rw [Int.sub_mul, Int.one_mul]
        have h7 : 0 ≤ (Q - 1) * U := Int.mul_nonneg (by omega) (by omega)
        omega
      have b6 : 0 ≤ (Q - 1 - 1) * R ∧ (Q - 1 - 1) * R ≤ 72057594037927936 := by
        have h5 := LF4.out
        have h6 : (Q - 1 - 1) * R = (Q - 1) * R - R := by rw [Int.sub_mul (Q - 1), Int.one_mul]
        have h7 : 0 ≤ (Q - 1 - 1) * R := Int.mul_nonneg (by omega) (by omega)
        omega
      have B5 := Aside0.mk b5
      have B6 := Aside0.mk b6
      clear ht2 b5 b6
      go_wp2_with fail
      refine (room (Q - 1) U cy R _ _ _ w4 f1 f3 f2 ⟨by omega, by omega⟩ B5.out B6.out ⟨by omega, by omega⟩).mono ?_
      rintro e w5 ⟨rfl, hB5⟩
      rw [HT2.out]
      have HB5 := Aside0.mk hB5
      have g1 := (hB5.cell (p := ⟨p, 0, none⟩) (World.block_lt_of_cell? w4 _ f1)).trans f1
      have g2 := (hB5.cell (p := ⟨q, 0, none⟩) (World.block_lt_of_cell? w4 _ f2)).trans f2
      clear hB5 f1 f2 f3
      go_wp2
      go_ret
      exact ⟨rfl, (((((((Below.refl w.heap.size w).alloc (Nat.le_refl _) _).alloc (by simp) _).trans (HB1.out.mono (by simp <;> omega))).trans (HB2.out.mono (by omega))).trans (HB3.out.mono (by omega))).trans (HB4.out.mono (by omega))).trans (HB5.out.mono (by have := HB4.out.size; omega))⟩

set_option maxHeartbeats 4000000 in
theorem lawLeast (co sl tr mu di ta ha is iw il ds dw dl qu ke : Int) (cy se : Int) (w : World) : Calls Try.prog 4 #[.agg #[.int .i64 co, .int .i64 sl, .int .i64 tr, .int .i64 mu, .int .i64 di, .int .i64 ta, .int .i64 ha, .int .i64 is, .int .i64 iw, .int .i64 il, .int .i64 ds, .int .i64 dw, .int .i64 dl, .int .i64 qu, .int .i64 ke], .int .i64 cy, .int .i64 se] w fun e w' => e = .returned (.bool true) ∧ Below w.heap.size w w' := by
  cases hM : MacB co sl tr mu di ta ha is iw il ds dw dl qu ke
  · exact lawLeast_err co sl tr mu di ta ha is iw il ds dw dl qu ke cy se 0 1 (quantaNo co sl tr mu di ta ha is iw il ds dw dl qu ke cy se hM) rfl w
  · by_cases hs : 0 ≤ se ∧ se ≤ 1099511627776
    · by_cases hc : 0 ≤ cy ∧ cy ≤ 1099511627776
      · by_cases hu : UsV co sl tr mu di ta ha qu ke se ≤ ReV co sl tr is iw ds dw
        · exact lawLeast_err co sl tr mu di ta ha is iw il ds dw dl qu ke cy se 0 20 (quantaLow co sl tr mu di ta ha is iw il ds dw dl qu ke cy se hM hc hs hu) rfl w
        · by_cases hb : cy ≤ 1073741824
          · exact lawLeast_main co sl tr mu di ta ha is iw il ds dw dl qu ke cy se hM hc hs hu hb w
          · exact lawLeast_big co sl tr mu di ta ha is iw il ds dw dl qu ke cy se hM hc hs hu (by omega) w
      · exact lawLeast_err co sl tr mu di ta ha is iw il ds dw dl qu ke cy se 0 2 (quantaCy co sl tr mu di ta ha is iw il ds dw dl qu ke cy se hM hc) rfl w
    · have h2 : ∀ w, Calls Try.prog 7 #[.agg #[.int .i64 co, .int .i64 sl, .int .i64 tr, .int .i64 mu, .int .i64 di, .int .i64 ta, .int .i64 ha, .int .i64 is, .int .i64 iw, .int .i64 il, .int .i64 ds, .int .i64 dw, .int .i64 dl, .int .i64 qu, .int .i64 ke], .int .i64 cy, .int .i64 se] w fun e w' => e = .returned (.tuple #[.int .i64 0, .int .i64 2]) ∧ Below w.heap.size w w' := by
        by_cases hc : 0 ≤ cy ∧ cy ≤ 1099511627776
        · exact quantaSe co sl tr mu di ta ha is iw il ds dw dl qu ke cy se hM hc hs
        · exact quantaCy co sl tr mu di ta ha is iw il ds dw dl qu ke cy se hM hc
      exact lawLeast_err co sl tr mu di ta ha is iw il ds dw dl qu ke cy se 0 2 h2 rfl w
end Go.Proofs.Ytmdbbfoejmakdaa.Hn

/-
  The contracts of the functions that the three plain laws of the admission's numbers reach: what each returns, in closed form. By this session, out of its own program (wip/gen).
-/
import Derived.Test.YtmdbbfoejmakdaaHpipe
import Derived.Deep.RegionHeld3
import Derived.Deep.QuietTactic
import Derived.BigQuiet
namespace Go.Proofs.Ytmdbbfoejmakdaa.Hn
open Go.RowKit Go.Proofs.YtmdbbfoejmakdaaW.PrintWords
open Go.Proofs.Ytmdbbfoejmakdaa.Hp
set_option linter.unusedVariables false
set_option linter.unusedSimpArgs false

def BusB (co sl tr : Int) : Bool := decide (1 ≤ co) && decide (co ≤ 4) && decide (1 ≤ tr) && decide (tr ≤ sl) && decide (sl ≤ 1000000)
theorem bret {a b : Bool} (h : a = b) : Ending.returned (.bool a) = .returned (.bool b) := by rw [h]
theorem iret {k : IntKind} {a b : Int} (h : a = b) : Ending.returned (.int k a) = .returned (.int k b) := by rw [h]
/-- A block of cells that was laid, in a later world. -/
theorem box_new (w : World) (cs : Array Value) (t : TypeId) (j : Nat) : (w.alloc (.cells cs t)).cell? ⟨w.heap.size, j, none⟩ = cs[j]? := by
  exact World.cell?_alloc_mark w cs t (0, 0) j
theorem box_keep {w1 w2 : World} {B : Nat} {cs : Array Value} (hb : Below w1.heap.size w1 w2) (hB : B < w1.heap.size) (h : ∀ j, w1.cell? ⟨B, j, none⟩ = cs[j]?) (j : Nat) : w2.cell? ⟨B, j, none⟩ = cs[j]? :=
  (hb.cell (p := ⟨B, j, none⟩) hB).trans (h j)
def PowB (n m : Int) : Bool := decide (1 ≤ n) && decide (n ≤ m) && (Go.bits .and .i64 n (wrap64 (n - 1)) == 0)
def CacB (s w l : Int) : Bool := PowB s 64 && decide (1 ≤ w) && decide (w ≤ 8) && PowB l 16
def PipB (mu di ta ha : Int) : Bool := !([mu, di, ta, ha].any fun n => decide (n < 0) || decide (1000 < n))

set_option maxHeartbeats 1000000 in
theorem busValid (co sl tr mu di ta ha is iw il ds dw dl qu ke : Int) (w : World) : Calls Try.prog 22 #[.agg #[.int .i64 co, .int .i64 sl, .int .i64 tr, .int .i64 mu, .int .i64 di, .int .i64 ta, .int .i64 ha, .int .i64 is, .int .i64 iw, .int .i64 il, .int .i64 ds, .int .i64 dw, .int .i64 dl, .int .i64 qu, .int .i64 ke]] w fun e w' => e = .returned (.bool (BusB co sl tr)) ∧ Below w.heap.size w w' := by
  by_cases c0 : 1 ≤ co
  · by_cases c1 : co ≤ 4
    · by_cases c2 : 1 ≤ tr
      · by_cases c3 : tr ≤ sl
        · by_cases c4 : sl ≤ 1000000
          · go_enter Try.func22, Try.ntmps22
            go_wp2
            go_ret
            exact ⟨bret (by rw [Bool.eq_iff_iff]; simp [BusB] <;> omega), (Below.refl _ _).alloc (Nat.le_refl _) _⟩
          · go_enter Try.func22, Try.ntmps22
            go_wp2
            go_ret
            exact ⟨bret (by rw [Bool.eq_iff_iff]; simp [BusB] <;> omega), (Below.refl _ _).alloc (Nat.le_refl _) _⟩
        · go_enter Try.func22, Try.ntmps22
          go_wp2
          go_ret
          exact ⟨bret (by rw [Bool.eq_iff_iff]; simp [BusB] <;> omega), (Below.refl _ _).alloc (Nat.le_refl _) _⟩
      · go_enter Try.func22, Try.ntmps22
        go_wp2
        go_ret
        exact ⟨bret (by rw [Bool.eq_iff_iff]; simp [BusB] <;> omega), (Below.refl _ _).alloc (Nat.le_refl _) _⟩
    · go_enter Try.func22, Try.ntmps22
      go_wp2
      go_ret
      exact ⟨bret (by rw [Bool.eq_iff_iff]; simp [BusB] <;> omega), (Below.refl _ _).alloc (Nat.le_refl _) _⟩
  · go_enter Try.func22, Try.ntmps22
    go_wp2
    go_ret
    exact ⟨bret (by rw [Bool.eq_iff_iff]; simp [BusB] <;> omega), (Below.refl _ _).alloc (Nat.le_refl _) _⟩

set_option maxHeartbeats 1000000 in
theorem power (n m : Int) (w : World) : Calls Try.prog 30 #[.int .i64 n, .int .i64 m] w fun e w' => e = .returned (.bool (PowB n m)) ∧ Below w.heap.size w w' := by
  by_cases c0 : 1 ≤ n
  · by_cases c1 : n ≤ m
    · go_enter Try.func30, Try.ntmps30
      go_wp2
      go_ret
      exact ⟨bret (by rw [Bool.eq_iff_iff]; simp [PowB] <;> omega), Below.refl _ _⟩
    · go_enter Try.func30, Try.ntmps30
      go_wp2
      go_ret
      exact ⟨bret (by rw [Bool.eq_iff_iff]; simp [PowB] <;> omega), Below.refl _ _⟩
  · go_enter Try.func30, Try.ntmps30
    go_wp2
    go_ret
    exact ⟨bret (by rw [Bool.eq_iff_iff]; simp [PowB] <;> omega), Below.refl _ _⟩

set_option maxHeartbeats 1000000 in
theorem count (n : Int) (w : World) : Calls Try.prog 20 #[.int .i64 n] w fun e w' => e = .returned (.bool (decide (0 ≤ n ∧ n ≤ 1099511627776))) ∧ Below w.heap.size w w' := by
  by_cases c0 : 0 ≤ n
  · go_enter Try.func20, Try.ntmps20
    go_wp2
    go_ret
    exact ⟨bret (by rw [Bool.eq_iff_iff]; simp <;> omega), Below.refl _ _⟩
  · go_enter Try.func20, Try.ntmps20
    go_wp2
    go_ret
    exact ⟨bret (by rw [Bool.eq_iff_iff]; simp <;> omega), Below.refl _ _⟩

set_option maxHeartbeats 1000000 in
theorem ranged (n : Int) (w : World) : Calls Try.prog 13 #[.int .i64 n] w fun e w' => e = .returned (.bool (decide (0 ≤ n ∧ n ≤ 1099511627776))) ∧ Below w.heap.size w w' := by
  by_cases c0 : 0 ≤ n
  · go_enter Try.func13, Try.ntmps13
    go_wp2
    go_ret
    exact ⟨bret (by rw [Bool.eq_iff_iff]; simp <;> omega), Below.refl _ _⟩
  · go_enter Try.func13, Try.ntmps13
    go_wp2
    go_ret
    exact ⟨bret (by rw [Bool.eq_iff_iff]; simp <;> omega), Below.refl _ _⟩

set_option maxHeartbeats 2000000 in
theorem cacheValid (s y l : Int) (w : World) : Calls Try.prog 24 #[.agg #[.int .i64 s, .int .i64 y, .int .i64 l]] w fun e w' => e = .returned (.bool (CacB s y l)) ∧ Below w.heap.size w w' := by
  have h1 := Aside0.mk (power s 64)
  have h2 := Aside0.mk (power l 16)
  generalize hb : PowB s 64 = b at h1
  generalize hc : PowB l 16 = c at h2
  have E : CacB s y l = (b && decide (1 ≤ y) && decide (y ≤ 8) && c) := by unfold CacB; rw [hb, hc]
  have HE := Aside0.mk E
  clear E hb hc
  cases b
  · go_enter Try.func24, Try.ntmps24
    go_wp2_with fail
    refine (h1.out _).mono ?_
    rintro e w' ⟨rfl, hB⟩
    have HB := Aside0.mk hB
    clear hB
    go_wp2
    go_ret
    exact ⟨bret (by rw [HE.out]; simp), ((Below.refl _ _).alloc (Nat.le_refl _) _).trans (HB.out.mono (by simp))⟩
  · by_cases c1 : 1 ≤ y
    · by_cases c2 : y ≤ 8
      · go_enter Try.func24, Try.ntmps24
        go_wp2_with fail
        refine (h1.out _).mono ?_
        rintro e w' ⟨rfl, hB⟩
        have HB := Aside0.mk hB
        have hc0 := hB.cell (p := ⟨w.heap.size, 0, none⟩) (by simp)
        have hc1 := hB.cell (p := ⟨w.heap.size, 1, none⟩) (by simp)
        have hc2 := hB.cell (p := ⟨w.heap.size, 2, none⟩) (by simp)
        clear hB
        go_wp2_with fail
        refine (h2.out _).mono ?_
        rintro e w2 ⟨rfl, hB2⟩
        have HB2 := Aside0.mk hB2
        clear hB2
        go_wp2
        go_ret
        exact ⟨bret (by rw [HE.out, Bool.eq_iff_iff]; simp <;> (intros; omega)), (((Below.refl _ _).alloc (Nat.le_refl _) _).trans (HB.out.mono (by simp))).trans (HB2.out.mono (by have := HB.out.size; simp at this; omega))⟩
      · go_enter Try.func24, Try.ntmps24
        go_wp2_with fail
        refine (h1.out _).mono ?_
        rintro e w' ⟨rfl, hB⟩
        have HB := Aside0.mk hB
        have hc1 := hB.cell (p := ⟨w.heap.size, 1, none⟩) (by simp)
        clear hB
        go_wp2
        go_ret
        exact ⟨bret (by rw [HE.out, Bool.eq_iff_iff]; simp <;> (intros; omega)), ((Below.refl _ _).alloc (Nat.le_refl _) _).trans (HB.out.mono (by simp))⟩
    · go_enter Try.func24, Try.ntmps24
      go_wp2_with fail
      refine (h1.out _).mono ?_
      rintro e w' ⟨rfl, hB⟩
      have HB := Aside0.mk hB
      have hc1 := hB.cell (p := ⟨w.heap.size, 1, none⟩) (by simp)
      clear hB
      go_wp2
      go_ret
      exact ⟨bret (by rw [HE.out, Bool.eq_iff_iff]; simp <;> (intros; omega)), ((Below.refl _ _).alloc (Nat.le_refl _) _).trans (HB.out.mono (by simp))⟩

def MacB (co sl tr mu di ta ha is iw il ds dw dl qu ke : Int) : Bool := BusB co sl tr && PipB mu di ta ha && CacB is iw il && CacB ds dw dl && decide (1 ≤ qu) && decide (qu ≤ 16777216) && decide (0 ≤ ke) && decide (ke ≤ qu)

set_option maxHeartbeats 4000000 in
theorem machValid (co sl tr mu di ta ha is iw il ds dw dl qu ke : Int) (w : World) : Calls Try.prog 11 #[.agg #[.int .i64 co, .int .i64 sl, .int .i64 tr, .int .i64 mu, .int .i64 di, .int .i64 ta, .int .i64 ha, .int .i64 is, .int .i64 iw, .int .i64 il, .int .i64 ds, .int .i64 dw, .int .i64 dl, .int .i64 qu, .int .i64 ke]] w fun e w' => e = .returned (.bool (MacB co sl tr mu di ta ha is iw il ds dw dl qu ke)) ∧ Below w.heap.size w w' := by
  have h1 := Aside0.mk (busValid co sl tr mu di ta ha is iw il ds dw dl qu ke)
  have h2 := Aside0.mk (pipeValid mu di ta ha)
  have h3 := Aside0.mk (cacheValid is iw il)
  have h4 := Aside0.mk (cacheValid ds dw dl)
  change Aside0 (∀ w, Calls Try.prog 23 _ w fun e w' => e = .returned (.bool (PipB mu di ta ha)) ∧ Below w.heap.size w w') at h2
  generalize hb1 : BusB co sl tr = b1 at h1
  generalize hb2 : PipB mu di ta ha = b2 at h2
  generalize hb3 : CacB is iw il = b3 at h3
  generalize hb4 : CacB ds dw dl = b4 at h4
  have E : MacB co sl tr mu di ta ha is iw il ds dw dl qu ke = (b1 && b2 && b3 && b4 && decide (1 ≤ qu) && decide (qu ≤ 16777216) && decide (0 ≤ ke) && decide (ke ≤ qu)) := by unfold MacB; rw [hb1, hb2, hb3, hb4]
  have HE := Aside0.mk E
  clear E hb1 hb2 hb3 hb4
  cases b1
  · go_enter Try.func11, Try.ntmps11
    go_wp2_with fail
    refine (h1.out _).mono ?_
    rintro e w1 ⟨rfl, hB1⟩
    have HB1 := Aside0.mk hB1
    have hc1 := box_keep hB1 (by simp) (box_new w _ _)
    have hz1 : w.heap.size < w1.heap.size := by have := hB1.size; simp at this; omega
    clear hB1
    go_wp2
    go_ret
    exact ⟨bret (by rw [HE.out]; simp), (((Below.refl _ _).alloc (Nat.le_refl _) _)).trans (HB1.out.mono (by simp))⟩
  cases b2
  · go_enter Try.func11, Try.ntmps11
    go_wp2_with fail
    refine (h1.out _).mono ?_
    rintro e w1 ⟨rfl, hB1⟩
    have HB1 := Aside0.mk hB1
    have hc1 := box_keep hB1 (by simp) (box_new w _ _)
    have hz1 : w.heap.size < w1.heap.size := by have := hB1.size; simp at this; omega
    clear hB1
    go_wp2_with fail
    refine (h2.out _).mono ?_
    rintro e w2 ⟨rfl, hB2⟩
    have HB2 := Aside0.mk hB2
    have hc2 := box_keep hB2 hz1 hc1
    have hz2 : w.heap.size < w2.heap.size := by have := hB2.size; omega
    clear hc1
    clear hB2
    go_wp2
    go_ret
    exact ⟨bret (by rw [HE.out]; simp), ((((Below.refl _ _).alloc (Nat.le_refl _) _)).trans (HB1.out.mono (by simp))).trans (HB2.out.mono (by omega))⟩
  cases b3
  · go_enter Try.func11, Try.ntmps11
    go_wp2_with fail
    refine (h1.out _).mono ?_
    rintro e w1 ⟨rfl, hB1⟩
    have HB1 := Aside0.mk hB1
    have hc1 := box_keep hB1 (by simp) (box_new w _ _)
    have hz1 : w.heap.size < w1.heap.size := by have := hB1.size; simp at this; omega
    clear hB1
    go_wp2_with fail
    refine (h2.out _).mono ?_
    rintro e w2 ⟨rfl, hB2⟩
    have HB2 := Aside0.mk hB2
    have hc2 := box_keep hB2 hz1 hc1
    have hz2 : w.heap.size < w2.heap.size := by have := hB2.size; omega
    clear hc1
    clear hB2
    go_wp2_with fail
    refine (h3.out _).mono ?_
    rintro e w3 ⟨rfl, hB3⟩
    have HB3 := Aside0.mk hB3
    have hc3 := box_keep hB3 hz2 hc2
    have hz3 : w.heap.size < w3.heap.size := by have := hB3.size; omega
    clear hc2
    clear hB3
    go_wp2
    go_ret
    exact ⟨bret (by rw [HE.out]; simp), (((((Below.refl _ _).alloc (Nat.le_refl _) _)).trans (HB1.out.mono (by simp))).trans (HB2.out.mono (by omega))).trans (HB3.out.mono (by omega))⟩
  cases b4
  · go_enter Try.func11, Try.ntmps11
    go_wp2_with fail
    refine (h1.out _).mono ?_
    rintro e w1 ⟨rfl, hB1⟩
    have HB1 := Aside0.mk hB1
    have hc1 := box_keep hB1 (by simp) (box_new w _ _)
    have hz1 : w.heap.size < w1.heap.size := by have := hB1.size; simp at this; omega
    clear hB1
    go_wp2_with fail
    refine (h2.out _).mono ?_
    rintro e w2 ⟨rfl, hB2⟩
    have HB2 := Aside0.mk hB2
    have hc2 := box_keep hB2 hz1 hc1
    have hz2 : w.heap.size < w2.heap.size := by have := hB2.size; omega
    clear hc1
    clear hB2
    go_wp2_with fail
    refine (h3.out _).mono ?_
    rintro e w3 ⟨rfl, hB3⟩
    have HB3 := Aside0.mk hB3
    have hc3 := box_keep hB3 hz2 hc2
    have hz3 : w.heap.size < w3.heap.size := by have := hB3.size; omega
    clear hc2
    clear hB3
    go_wp2_with fail
    refine (h4.out _).mono ?_
    rintro e w4 ⟨rfl, hB4⟩
    have HB4 := Aside0.mk hB4
    have hc4 := box_keep hB4 hz3 hc3
    have hz4 : w.heap.size < w4.heap.size := by have := hB4.size; omega
    clear hc3
    clear hB4
    go_wp2
    go_ret
    exact ⟨bret (by rw [HE.out]; simp), ((((((Below.refl _ _).alloc (Nat.le_refl _) _)).trans (HB1.out.mono (by simp))).trans (HB2.out.mono (by omega))).trans (HB3.out.mono (by omega))).trans (HB4.out.mono (by omega))⟩
  by_cases c0 : 1 ≤ qu
  · by_cases c1 : qu ≤ 16777216
    · by_cases c2 : 0 ≤ ke
      · go_enter Try.func11, Try.ntmps11
        go_wp2_with fail
        refine (h1.out _).mono ?_
        rintro e w1 ⟨rfl, hB1⟩
        have HB1 := Aside0.mk hB1
        have hc1 := box_keep hB1 (by simp) (box_new w _ _)
        have hz1 : w.heap.size < w1.heap.size := by have := hB1.size; simp at this; omega
        clear hB1
        go_wp2_with fail
        refine (h2.out _).mono ?_
        rintro e w2 ⟨rfl, hB2⟩
        have HB2 := Aside0.mk hB2
        have hc2 := box_keep hB2 hz1 hc1
        have hz2 : w.heap.size < w2.heap.size := by have := hB2.size; omega
        clear hc1
        clear hB2
        go_wp2_with fail
        refine (h3.out _).mono ?_
        rintro e w3 ⟨rfl, hB3⟩
        have HB3 := Aside0.mk hB3
        have hc3 := box_keep hB3 hz2 hc2
        have hz3 : w.heap.size < w3.heap.size := by have := hB3.size; omega
        clear hc2
        clear hB3
        go_wp2_with fail
        refine (h4.out _).mono ?_
        rintro e w4 ⟨rfl, hB4⟩
        have HB4 := Aside0.mk hB4
        have hc4 := box_keep hB4 hz3 hc3
        have hz4 : w.heap.size < w4.heap.size := by have := hB4.size; omega
        clear hc3
        clear hB4
        go_wp2
        go_ret
        exact ⟨bret (by rw [HE.out, Bool.eq_iff_iff]; simp <;> (intros; omega)), ((((((Below.refl _ _).alloc (Nat.le_refl _) _)).trans (HB1.out.mono (by simp))).trans (HB2.out.mono (by omega))).trans (HB3.out.mono (by omega))).trans (HB4.out.mono (by omega))⟩
      · go_enter Try.func11, Try.ntmps11
        go_wp2_with fail
        refine (h1.out _).mono ?_
        rintro e w1 ⟨rfl, hB1⟩
        have HB1 := Aside0.mk hB1
        have hc1 := box_keep hB1 (by simp) (box_new w _ _)
        have hz1 : w.heap.size < w1.heap.size := by have := hB1.size; simp at this; omega
        clear hB1
        go_wp2_with fail
        refine (h2.out _).mono ?_
        rintro e w2 ⟨rfl, hB2⟩
        have HB2 := Aside0.mk hB2
        have hc2 := box_keep hB2 hz1 hc1
        have hz2 : w.heap.size < w2.heap.size := by have := hB2.size; omega
        clear hc1
        clear hB2
        go_wp2_with fail
        refine (h3.out _).mono ?_
        rintro e w3 ⟨rfl, hB3⟩
        have HB3 := Aside0.mk hB3
        have hc3 := box_keep hB3 hz2 hc2
        have hz3 : w.heap.size < w3.heap.size := by have := hB3.size; omega
        clear hc2
        clear hB3
        go_wp2_with fail
        refine (h4.out _).mono ?_
        rintro e w4 ⟨rfl, hB4⟩
        have HB4 := Aside0.mk hB4
        have hc4 := box_keep hB4 hz3 hc3
        have hz4 : w.heap.size < w4.heap.size := by have := hB4.size; omega
        clear hc3
        clear hB4
        go_wp2
        go_ret
        exact ⟨bret (by rw [HE.out, Bool.eq_iff_iff]; simp <;> (intros; omega)), ((((((Below.refl _ _).alloc (Nat.le_refl _) _)).trans (HB1.out.mono (by simp))).trans (HB2.out.mono (by omega))).trans (HB3.out.mono (by omega))).trans (HB4.out.mono (by omega))⟩
    · go_enter Try.func11, Try.ntmps11
      go_wp2_with fail
      refine (h1.out _).mono ?_
      rintro e w1 ⟨rfl, hB1⟩
      have HB1 := Aside0.mk hB1
      have hc1 := box_keep hB1 (by simp) (box_new w _ _)
      have hz1 : w.heap.size < w1.heap.size := by have := hB1.size; simp at this; omega
      clear hB1
      go_wp2_with fail
      refine (h2.out _).mono ?_
      rintro e w2 ⟨rfl, hB2⟩
      have HB2 := Aside0.mk hB2
      have hc2 := box_keep hB2 hz1 hc1
      have hz2 : w.heap.size < w2.heap.size := by have := hB2.size; omega
      clear hc1
      clear hB2
      go_wp2_with fail
      refine (h3.out _).mono ?_
      rintro e w3 ⟨rfl, hB3⟩
      have HB3 := Aside0.mk hB3
      have hc3 := box_keep hB3 hz2 hc2
      have hz3 : w.heap.size < w3.heap.size := by have := hB3.size; omega
      clear hc2
      clear hB3
      go_wp2_with fail
      refine (h4.out _).mono ?_
      rintro e w4 ⟨rfl, hB4⟩
      have HB4 := Aside0.mk hB4
      have hc4 := box_keep hB4 hz3 hc3
      have hz4 : w.heap.size < w4.heap.size := by have := hB4.size; omega
      clear hc3
      clear hB4
      go_wp2
      go_ret
      exact ⟨bret (by rw [HE.out, Bool.eq_iff_iff]; simp <;> (intros; omega)), ((((((Below.refl _ _).alloc (Nat.le_refl _) _)).trans (HB1.out.mono (by simp))).trans (HB2.out.mono (by omega))).trans (HB3.out.mono (by omega))).trans (HB4.out.mono (by omega))⟩
  · go_enter Try.func11, Try.ntmps11
    go_wp2_with fail
    refine (h1.out _).mono ?_
    rintro e w1 ⟨rfl, hB1⟩
    have HB1 := Aside0.mk hB1
    have hc1 := box_keep hB1 (by simp) (box_new w _ _)
    have hz1 : w.heap.size < w1.heap.size := by have := hB1.size; simp at this; omega
    clear hB1
    go_wp2_with fail
    refine (h2.out _).mono ?_
    rintro e w2 ⟨rfl, hB2⟩
    have HB2 := Aside0.mk hB2
    have hc2 := box_keep hB2 hz1 hc1
    have hz2 : w.heap.size < w2.heap.size := by have := hB2.size; omega
    clear hc1
    clear hB2
    go_wp2_with fail
    refine (h3.out _).mono ?_
    rintro e w3 ⟨rfl, hB3⟩
    have HB3 := Aside0.mk hB3
    have hc3 := box_keep hB3 hz2 hc2
    have hz3 : w.heap.size < w3.heap.size := by have := hB3.size; omega
    clear hc2
    clear hB3
    go_wp2_with fail
    refine (h4.out _).mono ?_
    rintro e w4 ⟨rfl, hB4⟩
    have HB4 := Aside0.mk hB4
    have hc4 := box_keep hB4 hz3 hc3
    have hz4 : w.heap.size < w4.heap.size := by have := hB4.size; omega
    clear hc3
    clear hB4
    go_wp2
    go_ret
    exact ⟨bret (by rw [HE.out, Bool.eq_iff_iff]; simp <;> (intros; omega)), ((((((Below.refl _ _).alloc (Nat.le_refl _) _)).trans (HB1.out.mono (by simp))).trans (HB2.out.mono (by omega))).trans (HB3.out.mono (by omega))).trans (HB4.out.mono (by omega))⟩

end Go.Proofs.Ytmdbbfoejmakdaa.Hn

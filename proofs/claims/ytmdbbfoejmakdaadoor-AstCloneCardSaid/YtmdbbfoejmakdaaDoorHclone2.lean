/-
  The contract of ast.Clone: the copy's rows are all new. By this session, out of its own program (wip/gen).
-/
import Derived.Test.YtmdbbfoejmakdaaDoorHclone
namespace Go.Proofs.YtmdbbfoejmakdaaDoor.Ha
open Go.RowKit Go.Shelf Go.Proofs.YtmdbbfoejmakdaaDoorW.PrintWords Go.Proofs.YtmdbbfoejmakdaaDoorW.PrintLast Go.Proofs.YtmdbbfoejmakdaaDoorW.PrintMore Go.Proofs.YtmdbbfoejmakdaaDoor.P
set_option linter.unusedVariables false
set_option linter.unusedSimpArgs false

/-- What holds between two rounds of ast.Clone. -/
structure ClI (w : World) (x : Nd) (v' : Value) (k : Nat) (wr : World) : Prop where
  row : ∃ xs, wr.ownsRow (w.heap.size + 2) 24 4 v' x.f3.length xs ∧ (∀ u ∈ xs, u.oneCell' = true) ∧ Els x.f3 xs (fun j y A c => (j < k → Kd.R kNd 24 wr (w.heap.size + 2) (fun b => some b ≠ v'.ownBlock) (.slice A y.f3.length c) y.f3) ∧ (k ≤ j → At w y A c))
  below : Below w.heap.size w wr
  b0 : wr.heap[w.heap.size]? = some (.cells #[.int .u8 x.f0, .int .i64 x.f1, .string x.f2, v'] 24)
  b1 : wr.heap[w.heap.size + 1]? = some (.cells #[.int .u8 0, .int .i64 0, .string ⟨#[]⟩, .slice none 0 0] 24)
theorem ClI.start {w : World} {x : Nd} {A : Option Addr} {c : Nat} {w1 : World} {v' : Value} {xs : List Value} (hown : w1.ownsRow ((w.alloc (.cells #[.int .u8 x.f0, .int .i64 x.f1, .string x.f2, .slice A x.f3.length c] 24)).alloc (.cells #[.int .u8 0, .int .i64 0, .string ⟨#[]⟩, .slice none 0 0] 24)).heap.size 24 4 v' x.f3.length xs) (h1 : ∀ u ∈ xs, u.oneCell' = true) (hels : Els x.f3 xs fun _ y A c => At w y A c) (hB : Below ((w.alloc (.cells #[.int .u8 x.f0, .int .i64 x.f1, .string x.f2, .slice A x.f3.length c] 24)).alloc (.cells #[.int .u8 0, .int .i64 0, .string ⟨#[]⟩, .slice none 0 0] 24)).heap.size ((w.alloc (.cells #[.int .u8 x.f0, .int .i64 x.f1, .string x.f2, .slice A x.f3.length c] 24)).alloc (.cells #[.int .u8 0, .int .i64 0, .string ⟨#[]⟩, .slice none 0 0] 24)) w1) : ClI w x v' 0 (w1.setCell ⟨w.heap.size, 3, none⟩ v') := by
  have hs : ((w.alloc (.cells #[.int .u8 x.f0, .int .i64 x.f1, .string x.f2, .slice A x.f3.length c] 24)).alloc (.cells #[.int .u8 0, .int .i64 0, .string ⟨#[]⟩, .slice none 0 0] 24)).heap.size = w.heap.size + 2 := by simp
  rw [hs] at hown
  have hbw : Below w.heap.size w w1 := (((Below.refl _ w).alloc (Nat.le_refl _) _).alloc (by simp) _).trans (hB.mono (by simp; omega))
  have g0 : w1.heap[w.heap.size]? = some (.cells #[.int .u8 x.f0, .int .i64 x.f1, .string x.f2, .slice A x.f3.length c] 24) := (hB.block _ (by simp <;> omega)).trans (heap_alloc (World.alloc_heap_new w _))
  have g1 : w1.heap[w.heap.size + 1]? = some (.cells #[.int .u8 0, .int .i64 0, .string ⟨#[]⟩, .slice none 0 0] 24) := (hB.block _ (by simp <;> omega)).trans (by have := World.alloc_heap_new (w.alloc (.cells #[.int .u8 x.f0, .int .i64 x.f1, .string x.f2, .slice A x.f3.length c] 24)) (.cells #[.int .u8 0, .int .i64 0, .string ⟨#[]⟩, .slice none 0 0] 24); rwa [World.size_alloc] at this)
  exact ⟨⟨xs, own_setCell hown (fun e => by have := own_base hown w.heap.size e.symm; omega) _, h1, hels.mono fun j y A c _ h => ⟨fun e => by omega, fun _ => h⟩⟩, hbw.setCell (Nat.le_refl _) _, blk_set g0 3 v', blk_far g1 (by show w.heap.size + 1 ≠ w.heap.size; omega) _⟩
theorem len_le {s l n : Nat} (h1 : s = 1 + l) (h2 : n ≤ l) (h3 : s ≤ 1000000) : n ≤ 1000000 := by omega
theorem so_le {a b n : Nat} (h : a < b) (h2 : b ≤ n + 1) : a ≤ n := by omega
theorem meas_step {k len : Nat} (h : k < len) (hl : len ≤ 1000000) : len - (wrap64 ((k : Int) + 1)).toNat < len - k := by
  rw [w64 (by omega) (by omega)]
  omega
theorem ClI.step {w : World} {x : Nd} {g cap k : Nat} {wr w4 : World} {y : Nd} {A4 : Option Addr} {c4 : Nat} (h : ClI w x (.slice (some ⟨g, 0, none⟩) x.f3.length cap) k wr) (hy : x.f3[k]? = some y)
    (hR3 : Kd.R kNd 24 w4 wr.heap.size (fun _ => True) (.slice A4 y.f3.length c4) y.f3) (hB4 : Below wr.heap.size wr w4) :
    ClI w x (.slice (some ⟨g, 0, none⟩) x.f3.length cap) (k + 1) ((((w4.setCell ⟨g, k * 4, none⟩ (.int .u8 y.f0)).setCell ⟨g, k * 4 + 1, none⟩ (.int .i64 y.f1)).setCell ⟨g, k * 4 + 2, none⟩ (.string y.f2)).setCell ⟨g, k * 4 + 3, none⟩ (.slice A4 y.f3.length c4)) := by
  obtain ⟨xs, hown, h1, hels⟩ := h.row
  have own4 := pw_own_below hown hB4
  have own5 := own_put4 own4 (k * 4) (.int .u8 y.f0) (.int .i64 y.f1) (.string y.f2) (.slice A4 y.f3.length c4)
  have hg : w.heap.size + 2 ≤ g := own_base hown g rfl
  have hgl : g < wr.heap.size := own_lt hown g rfl
  have hkl : k < x.f3.length := (List.getElem?_eq_some_iff.1 hy).1
  have hxl : xs.length = x.f3.length * 4 := hown.1
  have far : ∀ {z : Nd} {A : Option Addr} {c : Nat}, Kd.R kNd 24 w4 (w.heap.size + 2) (fun b => some b ≠ some g) (.slice A z.f3.length c) z.f3 → Kd.R kNd 24 ((((w4.setCell ⟨g, k * 4, none⟩ (.int .u8 y.f0)).setCell ⟨g, k * 4 + 1, none⟩ (.int .i64 y.f1)).setCell ⟨g, k * 4 + 2, none⟩ (.string y.f2)).setCell ⟨g, k * 4 + 3, none⟩ (.slice A4 y.f3.length c4)) (w.heap.size + 2) (fun b => some b ≠ some g) (.slice A z.f3.length c) z.f3 := fun h =>
    Kd.R_far (Kd.R_far (Kd.R_far (Kd.R_far h (p := ⟨g, k * 4, none⟩) (fun b hb e => hb (by rw [e])) _) (p := ⟨g, k * 4 + 1, none⟩) (fun b hb e => hb (by rw [e])) _) (p := ⟨g, k * 4 + 2, none⟩) (fun b hb e => hb (by rw [e])) _) (p := ⟨g, k * 4 + 3, none⟩) (fun b hb e => hb (by rw [e])) _
  refine ⟨⟨_, own5, ?_, fun j z hj => ?_⟩, ?_, ?_, ?_⟩
  · intro u hu
    rcases List.mem_or_eq_of_mem_set hu with hu | rfl
    · rcases List.mem_or_eq_of_mem_set hu with hu | rfl
      · rcases List.mem_or_eq_of_mem_set hu with hu | rfl
        · rcases List.mem_or_eq_of_mem_set hu with hu | rfl
          · exact h1 u hu
          · rfl
        · rfl
      · rfl
    · rfl
  · by_cases hjk : j = k
    · subst hjk
      obtain rfl : y = z := Option.some.inj (hy.symm.trans hj)
      refine ⟨A4, c4, fun i hi => ?_, fun _ => far (Kd.R_lower (Kd.R_mono (Kd.R_new hR3 hown) (fun b hb => hb.2)) (by have := heap_lt h.b1; omega)), fun e => by omega⟩
      rw [get_put4 _ _ _ _ _ _ _ (by omega)]
      match i, hi with
      | 0, _ => rw [if_pos (by omega)]; rfl
      | 1, _ => rw [if_neg (by omega), if_pos (by omega)]; rfl
      | 2, _ => rw [if_neg (by omega), if_neg (by omega), if_pos (by omega)]; rfl
      | 3, _ => rw [if_neg (by omega), if_neg (by omega), if_neg (by omega), if_pos (by omega)]; rfl
    · obtain ⟨A, c, hxs, hq⟩ := hels j z hj
      refine ⟨A, c, fun i hi => ?_, fun e => far (Kd.R_below (hq.1 (by omega)) hB4), fun e => hq.2 (by omega)⟩
      rw [get_put4 _ _ _ _ _ _ _ (by omega), if_neg (by omega), if_neg (by omega), if_neg (by omega), if_neg (by omega)]
      exact hxs i hi
  · exact ((((h.below.trans (hB4.mono h.below.size)).setCell (p := ⟨g, k * 4, none⟩) (by show w.heap.size ≤ g; omega) _).setCell (p := ⟨g, k * 4 + 1, none⟩) (by show w.heap.size ≤ g; omega) _).setCell (p := ⟨g, k * 4 + 2, none⟩) (by show w.heap.size ≤ g; omega) _).setCell (p := ⟨g, k * 4 + 3, none⟩) (by show w.heap.size ≤ g; omega) _
  · have e := (hB4.block _ (by omega)).trans h.b0
    exact blk_far (blk_far (blk_far (blk_far e (p := ⟨g, k * 4, none⟩) (by show w.heap.size ≠ g; omega) _) (p := ⟨g, k * 4 + 1, none⟩) (by show w.heap.size ≠ g; omega) _) (p := ⟨g, k * 4 + 2, none⟩) (by show w.heap.size ≠ g; omega) _) (p := ⟨g, k * 4 + 3, none⟩) (by show w.heap.size ≠ g; omega) _
  · have e := (hB4.block _ (by omega)).trans h.b1
    exact blk_far (blk_far (blk_far (blk_far e (p := ⟨g, k * 4, none⟩) (by show w.heap.size + 1 ≠ g; omega) _) (p := ⟨g, k * 4 + 1, none⟩) (by show w.heap.size + 1 ≠ g; omega) _) (p := ⟨g, k * 4 + 2, none⟩) (by show w.heap.size + 1 ≠ g; omega) _) (p := ⟨g, k * 4 + 3, none⟩) (by show w.heap.size + 1 ≠ g; omega) _
set_option maxHeartbeats 4000000 in
set_option maxRecDepth 100000 in
theorem clone_n : ∀ (n : Nat) (x : Nd) (A : Option Addr) (c : Nat) (w : World), SizeOf.sizeOf x ≤ n → szN x ≤ 1000000 → At w x A c →
    Calls Tryd.prog 43 #[nodeV x A c] w fun e w' => ∃ v3, e = .returned (.agg #[.int .u8 x.f0, .int .i64 x.f1, .string x.f2, v3]) ∧ Kd.R kNd 24 w' w.heap.size (fun _ => True) v3 x.f3 ∧ Below w.heap.size w w' := by
  intro n
  induction n with
  | zero => intro x A c w hn; exact absurd hn (by cases x; simp)
  | succ n ih =>
    intro x A c w hn hs hA
    have HIH := Aside0.mk ih
    have HA := Aside0.mk hA
    have HN := Aside0.mk hn
    have HS := Aside0.mk hs
    have HC := Aside0.mk (fun w' (h : Below w.heap.size w w') => cloneNd A c x.f3 w w' h hA.1 hA.2 (len_le (szN_eq x) (szL_len x.f3) hs))
    clear ih hn hs hA
    go_enter Tryd.func43, Tryd.ntmps43
    go_wp2_with fail
    refine (HC.out _ (((Below.refl _ w).alloc (Nat.le_refl _) _).alloc (by simp) _)).mono ?_
    rintro e w1 ⟨v', xs, rfl, hown, h1, hels, hB1⟩
    obtain ⟨A1, c1', rfl⟩ := own_slice hown
    have hI := ClI.start hown h1 hels hB1
    have HI := Aside0.mk hI
    have g0 : w1.heap[w.heap.size]? = some (.cells #[.int .u8 x.f0, .int .i64 x.f1, .string x.f2, .slice A x.f3.length c] 24) := (hB1.block _ (by simp <;> omega)).trans (heap_alloc (World.alloc_heap_new w _))
    have c0 := heap_cells g0
    have f0 := heap_frozen g0
    have c1 := heap_cells hI.b0
    clear hI hown hels hB1 g0 h1
    go_wp2
    go_loopw [11] (fun v wr => ∃ k : Nat, k ≤ x.f3.length ∧ v = .int .i64 k ∧ Aside0 (ClI w x (.slice A1 x.f3.length c1') k wr)) (fun v _ => x.f3.length - (intOf v).toNat)
    case atStart => exact ⟨0, Nat.zero_le _, rfl, HI⟩
    case round =>
      obtain ⟨k, hk, rfl, HR⟩ := hrel
      by_cases hlt : k < x.f3.length
      · obtain ⟨xs, hown, h1, hels⟩ := HR.out.row
        obtain ⟨g, cap, e⟩ := Joins.ownsRow_form hown (by omega)
        simp only [Value.slice.injEq, true_and] at e
        obtain ⟨rfl, rfl⟩ := e
        obtain ⟨y, hy⟩ : ∃ y, x.f3[k]? = some y := ⟨_, List.getElem?_eq_getElem hlt⟩
        obtain ⟨A3, c3, hxs, hq⟩ := hels k y hy
        have HY := Aside0.mk hy
        have HLT := Aside0.mk hlt
        have HLEN : Aside0 (x.f3.length ≤ 1000000) := ⟨len_le (szN_eq x) (szL_len x.f3) HS.out⟩
        have HAY := Aside0.mk ((hq.2 (Nat.le_refl _)).below HR.out.below)
        have hgw : w.heap.size + 2 ≤ g := own_base hown g rfl
        have hgl : g < wr.heap.size := own_lt hown g rfl
        have hwl : w.heap.size + 1 < wr.heap.size := heap_lt HR.out.b1
        have HBX : Aside0 (∀ w', But (fun b => b = g) wr w' → ∀ j, w'.cell? ⟨w.heap.size, j, none⟩ = #[Value.int .u8 x.f0, .int .i64 x.f1, .string x.f2, .slice (some ⟨g, 0, none⟩) x.f3.length c1'][j]?) := ⟨fun w' h j => (h.cell (b := w.heap.size) (j := j) (by omega) (by show ¬ w.heap.size = g; omega)).trans (heap_cells HR.out.b0 j)⟩
        have HCE : Aside0 (∀ w', Below wr.heap.size wr w' → ∀ i, i < 4 → w'.cell? ⟨g, k * 4 + i, none⟩ = [Value.int .u8 y.f0, .int .i64 y.f1, .string y.f2, .slice A3 y.f3.length c3][i]?) := ⟨fun w' h i hi => by
          have hx1 := hxs i hi
          obtain ⟨u, hu⟩ : ∃ u, [Value.int .u8 y.f0, .int .i64 y.f1, .string y.f2, .slice A3 y.f3.length c3][i]? = some u := ⟨_, List.getElem?_eq_getElem (by simpa using hi)⟩
          rw [hu] at hx1 ⊢
          have := hown.cells (g := g) rfl (k * 4 + i) u hx1
          rw [add_plain] at this
          exact pw_cell_below h this⟩
        have HFZ : Aside0 (∀ w', Below wr.heap.size wr w' → ∀ i, w'.frozen? ⟨g, i, none⟩ = false) := ⟨fun w' h i => (h.frozen (p := ⟨g, i, none⟩) hgl).trans (own_frozen hown i)⟩
        have HOWN := Aside0.mk hown
        have hkc : x.f3.length ≤ c1' := by
          rcases hown.2 with ⟨h, _⟩ | ⟨g', cap', cur, h, _, _, hh, _⟩
          · cases h
          · simp only [Value.slice.injEq, Option.some.injEq, Addr.mk.injEq, and_true, true_and] at h
            rw [h.2]
            exact hh
        have hszy := szL_mem (List.mem_of_getElem? hy)
        have hdy := kid_lt (x := x) (List.mem_of_getElem? hy)
        have HIY : Aside0 (∀ w', Below wr.heap.size wr w' → Calls Tryd.prog 43 #[nodeV y A3 c3] w' fun e w'' => ∃ v3, e = .returned (.agg #[.int .u8 y.f0, .int .i64 y.f1, .string y.f2, v3]) ∧ Kd.R kNd 24 w'' w'.heap.size (fun _ => True) v3 y.f3 ∧ Below w'.heap.size w' w'') :=
          ⟨fun w' h => HIH.out y A3 c3 w' (so_le hdy HN.out) (len_le (szN_eq x) hszy HS.out) (HAY.out.below h)⟩
        clear hown h1 hels hxs hq hy hszy hdy
        go_wp2
        obtain ⟨R5, HR5⟩ : ∃ R : Act → World → Prop, Aside0 (R = fun a W' => ∃ t14 t15 t16 t17 t18 t19 t20 t21 t22 t23, a = { tmps := #[nodeV x A c, .pointer (some ⟨w.heap.size, 0, none⟩), .pointer (some ⟨w.heap.size + 1, 0, none⟩), .int .i64 k, .pointer (some ⟨w.heap.size, 3, none⟩), .slice A x.f3.length c, .slice (some ⟨g, 0, none⟩) x.f3.length c1', .pointer (some ⟨w.heap.size, 3, none⟩), .pointer (some ⟨w.heap.size, 3, none⟩), .slice (some ⟨g, 0, none⟩) x.f3.length c1', .int .i64 x.f3.length, .int .i64 k, .bool true, .int .i64 k, t14, t15, t16, t17, t18, t19, t20, t21, t22, t23, u24, undef], defers := [] } ∧ ClI w x (.slice (some ⟨g, 0, none⟩) x.f3.length c1') (k + 1) W') := ⟨_, ⟨rfl⟩⟩
        refine region_held_cut R5 (fun w' => But (fun b => b = g) wr w') (by kernel_rfl) (But.refl _ _).drew ?after ?inside
        case after =>
          intro a W5 h
          rw [HR5.out] at h
          obtain ⟨t14, t15, t16, t17, t18, t19, t20, t21, t22, t23, rfl, hI5⟩ := h
          clear HR5
          have HI5 := Aside0.mk hI5
          clear hI5
          have hl6 := HLEN.out
          have hl7 := HLT.out
          go_wp2
          refine ⟨?_, ?measure⟩
          (repeat apply Exists.intro)
          refine ⟨?rel, rfl⟩
          case rel => exact ⟨k + 1, HLT.out, by go_num, HI5⟩
          case measure => simp [intOf]; omega
        case inside =>
          intro hHeld
          have hHeld0 := hHeld
          refine held_take 0 (v := _) rfl (by kernel_rfl) (by kernel_rfl) (by kernel_rfl) (by rfl) (by assumption) (fun w' hSw => by
            skip
            go_simp
            try with_reducible rfl) ?_
          try simp only [Act.put, List.setIfInBounds_toArray, List.set_cons_zero, List.set_cons_succ]
          refine held_take 1 (v := _) rfl (by kernel_rfl) (by kernel_rfl) (by kernel_rfl) (by rfl) (by assumption) (fun w' hSw => by
            have hn3 := HBX.out w' hSw 3
            simp at hn3
            go_simp
            try with_reducible rfl) ?_
          try simp only [Act.put, List.setIfInBounds_toArray, List.set_cons_zero, List.set_cons_succ]
          refine held_take 2 (v := _) rfl (by kernel_rfl) (by kernel_rfl) (by kernel_rfl) (by rfl) (by assumption) (fun w' hSw => by
            skip
            go_simp
            try with_reducible rfl) ?_
          try simp only [Act.put, List.setIfInBounds_toArray, List.set_cons_zero, List.set_cons_succ]
          refine held_take 3 (v := _) rfl (by kernel_rfl) (by kernel_rfl) (by kernel_rfl) (by rfl) (by assumption) (fun w' hSw => by
            skip
            go_simp
            try with_reducible rfl) ?_
          try simp only [Act.put, List.setIfInBounds_toArray, List.set_cons_zero, List.set_cons_succ]
          refine held_take 4 (v := _) rfl (by kernel_rfl) (by kernel_rfl) (by kernel_rfl) (by rfl) (by assumption) (fun w' hSw => by
            have hn3 := HBX.out w' hSw 3
            simp at hn3
            go_simp
            try with_reducible rfl) ?_
          try simp only [Act.put, List.setIfInBounds_toArray, List.set_cons_zero, List.set_cons_succ]
          refine held_take 5 (v := _) rfl (by kernel_rfl) (by kernel_rfl) (by kernel_rfl) (by rfl) (by assumption) (fun w' hSw => by
            skip
            go_simp
            try with_reducible rfl) ?_
          try simp only [Act.put, List.setIfInBounds_toArray, List.set_cons_zero, List.set_cons_succ]
          refine held_take 6 (v := _) rfl (by kernel_rfl) (by kernel_rfl) (by kernel_rfl) (by rfl) (by assumption) (fun w' hSw => by
            skip
            go_simp
            try with_reducible rfl) ?_
          try simp only [Act.put, List.setIfInBounds_toArray, List.set_cons_zero, List.set_cons_succ]
          refine wpAnyH_ready (rs := [7]) (by kernel_rfl) (by simp) ?_
          refine held_cons rfl (by rfl) (fun K hK => ?_) ?_
          · unfold Oper.wp
            have q0 : wr.cell? ⟨g, k * 4, none⟩ = some (.int .u8 y.f0) := HCE.out wr (Below.refl _ _) 0 (by decide)
            have q1 : wr.cell? ⟨g, k * 4 + 1, none⟩ = some (.int .i64 y.f1) := HCE.out wr (Below.refl _ _) 1 (by decide)
            have q2 : wr.cell? ⟨g, k * 4 + 2, none⟩ = some (.string y.f2) := HCE.out wr (Below.refl _ _) 2 (by decide)
            have q3 : wr.cell? ⟨g, k * 4 + 3, none⟩ = some (.slice A3 y.f3.length c3) := HCE.out wr (Below.refl _ _) 3 (by decide)
            go_simp
            refine hK.out _ _ (hHeld) (fun hHeld => ?_)
            clear hK K
            try simp only [Act.put, List.setIfInBounds_toArray, List.set_cons_zero, List.set_cons_succ]
            refine wpAnyH_ready (rs := [8]) (by kernel_rfl) (by simp) ?_
            refine held_cons rfl (by rfl) (fun K hK => ?_) ?_
            · unfold Oper.wp
              go_simp
              refine (HIY.out _ (Below.refl _ wr).drew).mono ?_
              rintro e w4 ⟨v3, rfl, hR3, hB4⟩
              obtain ⟨A4, c4, rfl⟩ := Kd.R_slice hR3
              have HR3 := Aside0.mk hR3
              have HB4 : Aside0 (Below wr.heap.size wr w4) := ⟨(Below.refl _ wr).drew.trans hB4⟩
              clear hR3 hB4
              refine hK.out _ _ (But.of_below HB4.out) (fun hHeld => ?_)
              clear hK K
              try simp only [Act.put, List.setIfInBounds_toArray, List.set_cons_zero, List.set_cons_succ]
              refine held_take 9 (v := _) rfl (by kernel_rfl) (by kernel_rfl) (by kernel_rfl) (by rfl) (by assumption) (fun w' hSw => by
                skip
                go_simp
                try with_reducible rfl) ?_
              try simp only [Act.put, List.setIfInBounds_toArray, List.set_cons_zero, List.set_cons_succ]
              refine wpAnyH_ready (rs := [10]) (by kernel_rfl) (by simp) ?_
              refine held_cons rfl (by rfl) (fun K hK => ?_) ?_
              · unfold Oper.wp
                have q0 : w4.cell? ⟨g, k * 4, none⟩ = some (.int .u8 y.f0) := HCE.out w4 HB4.out 0 (by decide)
                have q1 : w4.cell? ⟨g, k * 4 + 1, none⟩ = some (.int .i64 y.f1) := HCE.out w4 HB4.out 1 (by decide)
                have q2 : w4.cell? ⟨g, k * 4 + 2, none⟩ = some (.string y.f2) := HCE.out w4 HB4.out 2 (by decide)
                have q3 : w4.cell? ⟨g, k * 4 + 3, none⟩ = some (.slice A3 y.f3.length c3) := HCE.out w4 HB4.out 3 (by decide)
                have qf := HFZ.out _ HB4.out
                go_simp
                refine hK.out _ _ (((((But.of_below (own := fun b => b = g) HB4.out).setCell ⟨g, k * 4, none⟩ _ rfl).setCell ⟨g, k * 4 + 1, none⟩ _ rfl).setCell ⟨g, k * 4 + 2, none⟩ _ rfl).setCell ⟨g, k * 4 + 3, none⟩ _ rfl) (fun hHeld => ?_)
                clear hK K
                try simp only [Act.put, List.setIfInBounds_toArray, List.set_cons_zero, List.set_cons_succ]
                refine wpAnyH_done (by kernel_rfl) ?_ _
                show R5 _ _
                rw [HR5.out]
                exact ⟨_, _, _, _, _, _, _, _, _, _, rfl, ClI.step HR.out HY.out HR3.out HB4.out⟩

              exact AllReadyH.nil

            exact AllReadyH.nil

          exact AllReadyH.nil
      · have ek : k = x.f3.length := by omega
        subst ek
        have c0 := heap_cells HR.out.b0
        have c1 := heap_cells HR.out.b1
        have f1 := heap_frozen HR.out.b1
        go_wp2
        have hm := blk_set (blk_set (blk_set (blk_set HR.out.b1 0 (.int .u8 x.f0)) 1 (.int .i64 x.f1)) 2 (.string x.f2)) 3 (.slice A1 x.f3.length c1')
        refine bodyPost_ret (v := .agg #[.int .u8 x.f0, .int .i64 x.f1, .string x.f2, .slice A1 x.f3.length c1']) ?_ rfl ?_
        · exact results_cell_row (by rfl) _ _ (w.heap.size + 1) _ _ _ _ (by rfl) hm Tryd.underlying24 rfl (by kernel_rfl)
        · obtain ⟨xs, hown, h1, hels⟩ := HR.out.row
          refine ⟨_, rfl, ?_, ?_⟩
          · have hR := Kd.R_bound (row_made (base := w.heap.size + 2) hown (hels.mono fun j y A c hj h => h.1 (List.getElem?_eq_some_iff.1 hj).1))
            have hne : ∀ k', (True ∧ w.heap.size + 2 ≤ k' ∧ k' < wr.heap.size ∧ ∃ q, q ∈ 24 :: (kNd).E ∧ ∃ cells, wr.heap[k']? = some (.cells cells q (0, 0))) → k' ≠ w.heap.size + 1 := fun k' h => by omega
            exact Kd.R_lower (Kd.R_mono (Kd.R_far (Kd.R_far (Kd.R_far (Kd.R_far hR (p := ⟨w.heap.size + 1, 0, none⟩) hne _) (p := ⟨w.heap.size + 1, 1, none⟩) hne _) (p := ⟨w.heap.size + 1, 2, none⟩) hne _) (p := ⟨w.heap.size + 1, 3, none⟩) hne _) (fun _ _ => trivial)) (by omega)
          · exact (((HR.out.below.setCell (p := ⟨w.heap.size + 1, 0, none⟩) (by show w.heap.size ≤ w.heap.size + 1; omega) _).setCell (p := ⟨w.heap.size + 1, 1, none⟩) (by show w.heap.size ≤ w.heap.size + 1; omega) _).setCell (p := ⟨w.heap.size + 1, 2, none⟩) (by show w.heap.size ≤ w.heap.size + 1; omega) _).setCell (p := ⟨w.heap.size + 1, 3, none⟩) (by show w.heap.size ≤ w.heap.size + 1; omega) _
end Go.Proofs.YtmdbbfoejmakdaaDoor.Ha

/-
  The law AstParts, walked: it returns true. By this session, out of its own program (wip/gen).
-/
import Derived.Test.YtmdbbfoejmakdaaDoorHlaw12d
import Derived.Test.YtmdbbfoejmakdaaDoorHpar
import Derived.Test.YtmdbbfoejmakdaaDoorHrow
namespace Go.Proofs.YtmdbbfoejmakdaaDoor.Ha
open Go.RowKit Go.Shelf Go.Proofs.YtmdbbfoejmakdaaDoorW.PrintWords Go.Proofs.YtmdbbfoejmakdaaDoorW.PrintLast Go.Proofs.YtmdbbfoejmakdaaDoorW.PrintMore Go.Proofs.YtmdbbfoejmakdaaDoor.P
set_option linter.unusedVariables false
set_option linter.unusedSimpArgs false
open Hl
attribute [local go_sem] Oper.semAt_some
theorem region_round_cut {n l : Nat} {P : Program} {Q : Exit → Act → World → Prop} {id : Nat} {a : Act} {w : World} {lo : List Oper} (R : Act → World → Prop) (S : World → Prop) (hnd : lo.all noDefer = true) (hm : P.follows .mixedOrders = true) (hS : S w.drew)
    (hR : ∀ a w, R a w → Q .normal a w) (h : S w.drew → wpAnyH P .any lo.toArray (cutR R) S lo.toArray.size (Array.replicate lo.toArray.size false) a w.drew) : (Code.region id lo.toArray true).wpIn (Fence.wide.inRound l) n P Q a w :=
  wpIn_mono (Q := cutR R) (region_round_held (Q := cutR R) S hnd hm hS h) (fun e a w h => by cases e <;> first | exact hR _ _ h | exact False.elim h)
set_option maxHeartbeats 4000000 in
set_option maxRecDepth 100000 in
theorem lawParts_big (x : Nd) (A : Option Addr) (c : Nat) (u : Int) (w : World) (hT : TabOk w) (hok : okN x) (hA : At w x A c) (hb : Ev fun k => ontimelaw12_Big.f k x.f0 x.f1 x.f2 x.f3 = some 1) :
    Calls Tryd.prog 6 #[nodeV x A c, .int .u8 u] w fun e w' => e = .returned (.bool true) ∧ Below w.heap.size w w' := by
  have h0 := Law2.start w #[.int .u8 x.f0, .int .i64 x.f1, .string x.f2, .slice A x.f3.length c]
  have HW := Aside0.mk (awake ((w.alloc (.cells #[.int .u8 x.f0, .int .i64 x.f1, .string x.f2, .slice A x.f3.length c] 24)).alloc (.cells #[.bool false] 4)) (hT.below h0.below))
  have HB := Aside0.mk (fun w' (h : Below w.heap.size w w') => big1 hb (hA.below h))
  have HI := Aside0.mk (fun w' (h : Below w.heap.size w w') => isBlock x A c w' hok (hT.below h) (hA.below h))
  have HA := Aside0.mk hA
  have HT := Aside0.mk hT
  have HOK := Aside0.mk hok
  have H0 := Aside0.mk h0
  clear hb hA hT h0 hok
  refine (callsIn_wide (n := 5)).1 ?_
  refine callsIn_of_wp_marks Tryd.func6 rfl trivial ?_ rfl
  simp only [Tryd.ntmps6, List.size_toArray, List.length_cons, List.length_nil, Nat.reduceAdd, Nat.reduceSub, Array.replicate_succ, Array.replicate_zero, List.push_toArray, List.append_toArray, List.nil_append, List.cons_append]
  gi_wp2_with fail
  refine ⟨trivial, ?_⟩
  refine (callsIn_wide.2 HW.out).mono ?_
  rintro e w1 ⟨rfl, hB1⟩
  have H1 := Aside0.mk (H0.out.step hB1)
  clear hB1
  have hc1 := H1.out.n
  gi_wp2_with fail
  refine ⟨trivial, ?_⟩
  refine (callsIn_wide.2 (HB.out _ H1.out.below)).mono ?_
  rintro e w2 ⟨rfl, hB2⟩
  have H2 := Aside0.mk (H1.out.step hB2)
  clear hB2 hc1
  have hc2 := H2.out.n
  obtain ⟨hr1, hr2⟩ := H2.out.res
  gi_wp2
  refine ⟨trivial, ?_⟩
  gi_wp2
  exact leave0 rfl rfl (World.cell?_setCell_same' _ _ _ (by rw [hr1]; rfl)) (H2.out.below.setCell (p := ⟨w.heap.size + 1, 0, none⟩) (by show w.heap.size ≤ w.heap.size + 1; omega) _)
set_option maxHeartbeats 4000000 in
set_option maxRecDepth 100000 in
theorem lawParts_no (x : Nd) (A : Option Addr) (c : Nat) (u : Int) (w : World) (hT : TabOk w) (hok : okN x) (hA : At w x A c) (hb : Ev fun k => ontimelaw12_Big.f k x.f0 x.f1 x.f2 x.f3 = some 0) (hi : isN x 8 = false) :
    Calls Tryd.prog 6 #[nodeV x A c, .int .u8 u] w fun e w' => e = .returned (.bool true) ∧ Below w.heap.size w w' := by
  have h0 := Law2.start w #[.int .u8 x.f0, .int .i64 x.f1, .string x.f2, .slice A x.f3.length c]
  have HW := Aside0.mk (awake ((w.alloc (.cells #[.int .u8 x.f0, .int .i64 x.f1, .string x.f2, .slice A x.f3.length c] 24)).alloc (.cells #[.bool false] 4)) (hT.below h0.below))
  have HB := Aside0.mk (fun w' (h : Below w.heap.size w w') => big0 hb (hA.below h))
  have HI := Aside0.mk (fun w' (h : Below w.heap.size w w') => isBlock x A c w' hok (hT.below h) (hA.below h))
  have HA := Aside0.mk hA
  have HT := Aside0.mk hT
  have HOK := Aside0.mk hok
  have H0 := Aside0.mk h0
  clear hb hA hT h0 hok
  refine (callsIn_wide (n := 5)).1 ?_
  refine callsIn_of_wp_marks Tryd.func6 rfl trivial ?_ rfl
  simp only [Tryd.ntmps6, List.size_toArray, List.length_cons, List.length_nil, Nat.reduceAdd, Nat.reduceSub, Array.replicate_succ, Array.replicate_zero, List.push_toArray, List.append_toArray, List.nil_append, List.cons_append]
  gi_wp2_with fail
  refine ⟨trivial, ?_⟩
  refine (callsIn_wide.2 HW.out).mono ?_
  rintro e w1 ⟨rfl, hB1⟩
  have H1 := Aside0.mk (H0.out.step hB1)
  clear hB1
  have hc1 := H1.out.n
  gi_wp2_with fail
  refine ⟨trivial, ?_⟩
  refine (callsIn_wide.2 (HB.out _ H1.out.below)).mono ?_
  rintro e w2 ⟨rfl, hB2⟩
  have H2 := Aside0.mk (H1.out.step hB2)
  clear hB2 hc1
  have hc2 := H2.out.n
  gi_wp2_with fail
  refine ⟨trivial, ?_⟩
  refine (callsIn_wide.2 (HI.out _ H2.out.below)).mono ?_
  rintro e w3 ⟨rfl, hB3⟩
  have H3 := Aside0.mk (H2.out.step hB3)
  clear hB3 hc2
  have hc3 := H3.out.n
  rw [hi]
  obtain ⟨hr1, hr2⟩ := H3.out.res
  gi_wp2
  exact leave0 rfl rfl (World.cell?_setCell_same' _ _ _ (by rw [hr1]; rfl)) (H3.out.below.setCell (p := ⟨w.heap.size + 1, 0, none⟩) (by show w.heap.size ≤ w.heap.size + 1; omega) _)
/-- What stays while the last calls run. -/
structure Law3 (w W U : World) (D : Nat) : Prop where
  bw : Below w.heap.size w U
  bW : Below W.heap.size W U
  res : Box1 U (w.heap.size + 1) (.bool false)
  kd : U.heap[D]? = some (.deferred (some []))
theorem Law3.step {w W U U' : World} {D : Nat} (h : Law3 w W U D) (hb : Below U.heap.size U U') : Law3 w W U' D :=
  ⟨h.bw.trans (hb.mono h.bw.size), h.bW.trans (hb.mono h.bW.size), h.res.below hb, (hb.block D (Array.getElem?_eq_some_iff.1 h.kd).1).trans h.kd⟩
/-- The world in which the range begins. -/
structure ParAt (w : World) (row : Array Value) (S : Nat) (W : World) : Prop where
  law : Law2 w row W
  le : w.heap.size + 2 ≤ S
  size : W.heap.size = S + 1
  wlk : ∀ j, W.cell? ⟨S, j, none⟩ = row[j]?
theorem ParAt.of {w : World} {row : Array Value} {w3 : World} (h : Law2 w row w3) : ParAt w row w3.heap.size (w3.alloc (.cells row 24)) :=
  ⟨h.step ((Below.refl _ w3).alloc (Nat.le_refl _) _), h.res.lt, by simp, fun j => box_new w3 row 24 j⟩
set_option maxHeartbeats 4000000 in
set_option maxRecDepth 100000 in
theorem lawParts_main (x : Nd) (A : Option Addr) (c : Nat) (u : Int) (w : World) (hT : TabOk w) (hok : okN x) (hA : At w x A c) (hb : Ev fun k => ontimelaw12_Big.f k x.f0 x.f1 x.f2 x.f3 = some 0) (hs : szN x ≤ 500) (hd : dpN x ≤ 40) (hv : (Lit.int .u8 u).wf = true) (hi : isN x 8 = true) :
    Calls Tryd.prog 6 #[nodeV x A c, .int .u8 u] w fun e w' => e = .returned (.bool true) ∧ Below w.heap.size w w' := by
  have h0 := Law2.start w #[.int .u8 x.f0, .int .i64 x.f1, .string x.f2, .slice A x.f3.length c]
  have HW := Aside0.mk (awake ((w.alloc (.cells #[.int .u8 x.f0, .int .i64 x.f1, .string x.f2, .slice A x.f3.length c] 24)).alloc (.cells #[.bool false] 4)) (hT.below h0.below))
  have HB := Aside0.mk (fun w' (h : Below w.heap.size w w') => big0 hb (hA.below h))
  have HI := Aside0.mk (fun w' (h : Below w.heap.size w w') => isBlock x A c w' hok (hT.below h) (hA.below h))
  have HA := Aside0.mk hA
  have HT := Aside0.mk hT
  have HOK := Aside0.mk hok
  have H0 := Aside0.mk h0
  clear hb hA hT h0 hok
  refine (callsIn_wide (n := 5)).1 ?_
  refine callsIn_of_wp_marks Tryd.func6 rfl trivial ?_ rfl
  simp only [Tryd.ntmps6, List.size_toArray, List.length_cons, List.length_nil, Nat.reduceAdd, Nat.reduceSub, Array.replicate_succ, Array.replicate_zero, List.push_toArray, List.append_toArray, List.nil_append, List.cons_append]
  gi_wp2_with fail
  refine ⟨trivial, ?_⟩
  refine (callsIn_wide.2 HW.out).mono ?_
  rintro e w1 ⟨rfl, hB1⟩
  have H1 := Aside0.mk (H0.out.step hB1)
  clear hB1
  have hc1 := H1.out.n
  gi_wp2_with fail
  refine ⟨trivial, ?_⟩
  refine (callsIn_wide.2 (HB.out _ H1.out.below)).mono ?_
  rintro e w2 ⟨rfl, hB2⟩
  have H2 := Aside0.mk (H1.out.step hB2)
  clear hB2 hc1
  have hc2 := H2.out.n
  gi_wp2_with fail
  refine ⟨trivial, ?_⟩
  refine (callsIn_wide.2 (HI.out _ H2.out.below)).mono ?_
  rintro e w3 ⟨rfl, hB3⟩
  have H3 := Aside0.mk (H2.out.step hB3)
  clear hB3 hc2
  have hc3 := H3.out.n
  rw [hi]
  gi_wp2_with (first
    | ((try refine ⟨trivial, ?_⟩); (try refine ⟨fun _ => by omega, ?_⟩); gi_at_call 36; refine (callsIn_wide.2 (WalkF x A c _)).mono ?_; rintro e w4 ⟨rfl, rfl⟩)
    | fail)
  refine at_world (ParAt w #[.int .u8 x.f0, .int .i64 x.f1, .string x.f2, .slice A x.f3.length c] w3.heap.size) (ParAt.of H3.out) (fun Wl hW => ?_)
  clear hc3 HW HB H0 H1 H2 H3
  have hS := hW.le
  generalize w3.heap.size = S at *
  have hsz := hW.size
  have hAt : TreeAt (But (fun _ => False) Wl) x A c := (treeAt_of w _ x A c (Nat.le_refl _) HA.out).mono (fun W hW' => hW.law.below.trans (hW'.under (fun k hk e => e) (by omega)))
  have HTX := Aside0.mk hAt
  refine range_known2 (n := 5) (by omega) (gf := 89) (lb := #[.pointer (some ⟨S, 0, none⟩)]) rfl enter_Walk1
    (Walk_known (But (fun _ => False) Wl) (fun _ => False) Wl S x A c (But.refl _ _) (fun _ _ h h' => h.below h') (fun _ _ h h' => h.owned h') (fun k e => e.elim) hAt hW.wlk (by omega) (by omega)) (fun _ => rfl) (fun x => Kn_own _ _ _ x)
    (fun _ W => But (fun _ => False) Wl W) (fun _ _ _ => False) (But.own _ _) (But.stays _ _) (fun _ _ _ _ _ hs _ _ => hs) (fun _ _ _ _ hs _ => hs) (But.refl _ _)
    (fun v a' W => ∃ b, Wl.heap.size ≤ b ∧ (∀ j, j < 4 → W.cell? ⟨b, j, none⟩ = #[Value.int .u8 v.node.f0, .int .i64 v.node.f1, .string v.node.f2, .slice v.nA v.node.f3.length v.nc][j]?) ∧ a' = { tmps := #[nodeV x A c, .int .u8 u, .pointer (some ⟨w.heap.size, 0, none⟩), undef, .pointer (some ⟨w.heap.size + 1, 0, none⟩), undef, .pointer (some ⟨b, 0, none⟩), undef, undef, undef, undef, undef, undef, undef, .bool true, .bool false, .agg #[.int .u8 x.f0, .int .i64 x.f1, .string x.f2, .slice A x.f3.length c], .int .i64 0, .bool false, .bool false, .agg #[.int .u8 x.f0, .int .i64 x.f1, .string x.f2, .slice A x.f3.length c], .bool true, .bool false, .bool false, .agg #[.int .u8 x.f0, .int .i64 x.f1, .string x.f2, .slice A x.f3.length c], .func (.func 89) #[] #[.pointer (some ⟨S, 0, none⟩)], v.pv, nodeV v.node v.nA v.nc, undef, undef, undef, undef, undef, undef, undef, undef, undef, undef, undef, undef, undef, undef, undef, undef, undef, undef, undef, undef, undef, undef, undef, undef, undef, undef, undef, undef, undef, undef, undef, undef, undef, undef, undef, undef, undef, undef, undef, undef, undef, undef, undef, undef, undef, undef, undef, undef, undef, undef, undef, undef, undef, undef, undef, undef, undef, undef, undef, undef, undef, undef, undef, undef, undef, undef, undef, undef, undef, undef, undef, undef], defers := [] }) ?ax ?assign ?body ?done ?stop
  case ax =>
    rintro v a' s W W' row ⟨b, hb, hc, rfl⟩ hg hr
    refine ⟨b, hb, fun j hj => ?_, rfl⟩
    obtain ⟨u, hu⟩ : ∃ u, #[Value.int .u8 v.node.f0, .int .i64 v.node.f1, .string v.node.f2, .slice v.nA v.node.f3.length v.nc][j]? = some u := ⟨_, Array.getElem?_eq_getElem (by simpa using hj)⟩
    rw [hu]
    exact cell_kept ((hc j hj).trans hu) hg (fun r e => (hr r e).2)
  case assign =>
    intro l pre v W K hi hkn hWs hK
    simp only [Vis.enc]
    gi_wp2
    have hb : Below W.heap.size W (W.alloc (.cells #[Value.int .u8 v.node.f0, .int .i64 v.node.f1, .string v.node.f2, .slice v.nA v.node.f3.length v.nc] 24)) := (Below.refl _ _).alloc (Nat.le_refl _) _
    exact hK _ _ (KeepsOthers.of_below hb) (But.of_below hb) (hi.below hb) ⟨hkn.1.below hb, hkn.2⟩ ⟨_, Nat.le_trans (Nat.le_add_right _ 2) hWs, fun j _ => box_new _ _ _ j, rfl⟩
  case body =>
    rintro l pre v a' W hI hkn ⟨b, hb, hcb, rfl⟩ hsp hWs
    have hmem : (v.path, v.node) ∈ wkN [] x := hsp.subset (by rw [List.map_append]; exact List.mem_append_right _ (List.mem_singleton.2 rfl))
    have hone := wk_one x [] 8 (Or.inr (Or.inr (Or.inr rfl))) hi _ hmem
    have hokm := wk_ok x [] HOK.out _ hmem
    obtain ⟨path, pv, node, nA, nc⟩ := v
    dsimp only at *
    have HI' := Aside0.mk hI
    have HKN := Aside0.mk hkn
    have hlb : b < W.heap.size := World.block_lt_of_cell? W ⟨b, 0, none⟩ (hcb 0 (by decide))
    have HM : Aside0 (∀ w', Below W.heap.size W w' → ∀ j, j < 4 → w'.cell? ⟨b, j, none⟩ = #[Value.int .u8 node.f0, .int .i64 node.f1, .string node.f2, .slice nA node.f3.length nc][j]?) := ⟨fun w' h j hj => (h.cell (p := ⟨b, j, none⟩) hlb).trans (hcb j hj)⟩
    have HTW : Aside0 (∀ w', Below W.heap.size W w' → TabOk w' ∧ At w' node nA nc) := ⟨fun w' h => ⟨HT.out.below (hW.law.below.trans ((hI.below h).under (fun k hk e => e) (by omega))), hkn.2.at (hI.below h)⟩⟩
    have HC1 : Aside0 (∀ w', Below W.heap.size W w' → Calls Tryd.prog 23 #[nodeV node nA nc] w' fun e w'' => e = .returned (.bool (isN node 1)) ∧ Below w'.heap.size w' w'') := ⟨fun w' h => isExpr node nA nc w' hokm (HTW.out w' h).1 (HTW.out w' h).2⟩
    have HC4 : Aside0 (∀ w', Below W.heap.size W w' → Calls Tryd.prog 25 #[nodeV node nA nc] w' fun e w'' => e = .returned (.bool (isN node 4)) ∧ Below w'.heap.size w' w'') := ⟨fun w' h => isStmt node nA nc w' hokm (HTW.out w' h).1 (HTW.out w' h).2⟩
    have HC8 : Aside0 (∀ w', Below W.heap.size W w' → Calls Tryd.prog 27 #[nodeV node nA nc] w' fun e w'' => e = .returned (.bool (isN node 8)) ∧ Below w'.heap.size w' w'') := ⟨fun w' h => isBlock node nA nc w' hokm (HTW.out w' h).1 (HTW.out w' h).2⟩
    have HONE : Aside0 (∃ i0 : Nat, i0 < 3 ∧ isN node 1 = decide (0 = i0) ∧ isN node 4 = decide (1 = i0) ∧ isN node 8 = decide (2 = i0)) := ⟨by
      rcases hone with ⟨e1, e2, e3⟩ | ⟨e1, e2, e3⟩ | ⟨e1, e2, e3⟩
      · exact ⟨0, by decide, e1, e2, e3⟩
      · exact ⟨1, by decide, e1, e2, e3⟩
      · exact ⟨2, by decide, e1, e2, e3⟩⟩
    clear hkn hsp hI hmem hcb hone hokm HTW
    generalize isN node 1 = v1 at *
    generalize isN node 4 = v4 at *
    generalize isN node 8 = v8 at *
    gi_wp2
    refine region_round_held (fun w' => Below W.heap.size W w') rfl (by kernel_rfl) (Below.refl _ W).drew (fun hHeld => ?_)
    refine held_take 8 (v := _) rfl (by kernel_rfl) (by kernel_rfl) (by kernel_rfl) (by rfl) (by assumption) (fun w' hSw => by
      skip
      go_simp
      try with_reducible rfl) ?_
    try simp only [Act.put, List.setIfInBounds_toArray, List.set_cons_zero, List.set_cons_succ]
    refine held_take 0 (v := _) rfl (by kernel_rfl) (by kernel_rfl) (by kernel_rfl) (by rfl) (by assumption) (fun w' hSw => by
      have hm0 := HM.out w' hSw 0 (by decide)
      have hm1 := HM.out w' hSw 1 (by decide)
      have hm2 := HM.out w' hSw 2 (by decide)
      have hm3 := HM.out w' hSw 3 (by decide)
      go_simp
      try with_reducible rfl) ?_
    try simp only [Act.put, List.setIfInBounds_toArray, List.set_cons_zero, List.set_cons_succ]
    refine held_take 2 (v := _) rfl (by kernel_rfl) (by kernel_rfl) (by kernel_rfl) (by rfl) (by assumption) (fun w' hSw => by
      have hm0 := HM.out w' hSw 0 (by decide)
      have hm1 := HM.out w' hSw 1 (by decide)
      have hm2 := HM.out w' hSw 2 (by decide)
      have hm3 := HM.out w' hSw 3 (by decide)
      go_simp
      try with_reducible rfl) ?_
    try simp only [Act.put, List.setIfInBounds_toArray, List.set_cons_zero, List.set_cons_succ]
    refine held_take 4 (v := _) rfl (by kernel_rfl) (by kernel_rfl) (by kernel_rfl) (by rfl) (by assumption) (fun w' hSw => by
      have hm0 := HM.out w' hSw 0 (by decide)
      have hm1 := HM.out w' hSw 1 (by decide)
      have hm2 := HM.out w' hSw 2 (by decide)
      have hm3 := HM.out w' hSw 3 (by decide)
      go_simp
      try with_reducible rfl) ?_
    try simp only [Act.put, List.setIfInBounds_toArray, List.set_cons_zero, List.set_cons_succ]
    refine wpAnyH_ready (rs := [1]) (by kernel_rfl) (by simp) ?_
    refine held_cons rfl (by rfl) (fun K hK => ?_) ?_
    · unfold Oper.wp
      go_simp
      refine (HC1.out _ (by assumption)).mono ?_
      rintro e w5 ⟨rfl, hbw5⟩
      refine hK.out _ _ (hHeld.trans (hbw5.mono hHeld.size)) (fun hHeld => ?_)
      clear hK K
      try simp only [Act.put, List.setIfInBounds_toArray, List.set_cons_zero, List.set_cons_succ]
      refine wpAnyH_ready (rs := [3]) (by kernel_rfl) (by simp) ?_
      refine held_cons rfl (by rfl) (fun K hK => ?_) ?_
      · unfold Oper.wp
        go_simp
        refine (HC4.out _ (by assumption)).mono ?_
        rintro e w6 ⟨rfl, hbw6⟩
        refine hK.out _ _ (hHeld.trans (hbw6.mono hHeld.size)) (fun hHeld => ?_)
        clear hK K
        try simp only [Act.put, List.setIfInBounds_toArray, List.set_cons_zero, List.set_cons_succ]
        refine wpAnyH_ready (rs := [5]) (by kernel_rfl) (by simp) ?_
        refine held_cons rfl (by rfl) (fun K hK => ?_) ?_
        · unfold Oper.wp
          go_simp
          refine (HC8.out _ (by assumption)).mono ?_
          rintro e w7 ⟨rfl, hbw7⟩
          refine hK.out _ _ (hHeld.trans (hbw7.mono hHeld.size)) (fun hHeld => ?_)
          clear hK K
          try simp only [Act.put, List.setIfInBounds_toArray, List.set_cons_zero, List.set_cons_succ]
          refine wpAnyH_ready (rs := [6]) (by kernel_rfl) (by simp) ?_
          refine held_cons rfl (by rfl) (fun K hK => ?_) ?_
          · unfold Oper.wp
            go_simp
            refine hK.out _ _ (hHeld.alloc hHeld.size _) (fun hHeld => ?_)
            clear hK K
            try simp only [Act.put, List.setIfInBounds_toArray, List.set_cons_zero, List.set_cons_succ]
            refine held_take 7 (v := _) rfl (by kernel_rfl) (by kernel_rfl) (by kernel_rfl) (by rfl) (by assumption) (fun w' hSw => by
              skip
              go_simp
              try with_reducible rfl) ?_
            try simp only [Act.put, List.setIfInBounds_toArray, List.set_cons_zero, List.set_cons_succ]
            refine wpAnyH_done (by kernel_rfl) ?_ _
            refine cutR_world (fun W' => Below W.heap.size W W' ∧ ∀ j, W'.cell? ⟨w7.heap.size, j, none⟩ = #[Value.bool v1, .bool v4, .bool v8][j]?) ⟨by assumption, fun j => box_new _ _ _ j⟩ (fun W2 hW2 => ?_)
            obtain ⟨hW2, hbc⟩ := hW2
            generalize w7.heap.size = bb at *
            obtain ⟨i0, hi0, rfl, rfl, rfl⟩ := HONE.out
            have HW2 := Aside0.mk hW2
            have HBC : Aside0 (∀ k : Nat, k < 3 → W2.cell? ⟨bb, k, none⟩ = some (.bool (decide (k = i0)))) := ⟨fun k hk => by
              rw [hbc]
              match k, hk with
              | 0, _ => rfl
              | 1, _ => rfl
              | 2, _ => rfl⟩
            clear hW2 hbc HONE
            gi_wp2
            gi_loopw [7, 36] (fun v7 v36 wr => ∃ k : Nat, k ≤ 3 ∧ v36 = .int .i64 k ∧ v7 = .int .i64 (if i0 < k then 1 else 0) ∧ wr = W2) (fun _ v36 _ => 3 - (intOf v36).toNat)
            case atStart => exact ⟨0, by omega, rfl, rfl, rfl⟩
            case round =>
              obtain ⟨k, hk, rfl, rfl, rfl⟩ := hrel
              by_cases hlt : k < 3
              · have hcell := HBC.out k hlt
                rcases Nat.lt_trichotomy k i0 with h | h | h
                · have e1 : decide (k = i0) = false := by simp; omega
                  have e2 : (if i0 < k then (1 : Int) else 0) = 0 := if_neg (by omega)
                  have e3 : (if i0 < k + 1 then (1 : Int) else 0) = 0 := if_neg (by omega)
                  rw [e1] at hcell
                  rw [e2]
                  gi_wp2
                  case roundEnd => exact ⟨⟨k + 1, by omega, by go_num, by rw [e3], by first | rfl | trivial⟩, by simp [intOf]; omega⟩
                · subst h
                  have e1 : decide (k = k) = true := by simp
                  have e2 : (if k < k then (1 : Int) else 0) = 0 := if_neg (by omega)
                  have e3 : (if k < k + 1 then (1 : Int) else 0) = 1 := if_pos (by omega)
                  rw [e1] at hcell
                  rw [e2]
                  gi_wp2
                  case roundEnd => exact ⟨⟨k + 1, by omega, by go_num, by rw [e3], by first | rfl | trivial⟩, by simp [intOf]; omega⟩
                · have e1 : decide (k = i0) = false := by simp; omega
                  have e2 : (if i0 < k then (1 : Int) else 0) = 1 := if_pos (by omega)
                  have e3 : (if i0 < k + 1 then (1 : Int) else 0) = 1 := if_pos (by omega)
                  rw [e1] at hcell
                  rw [e2]
                  gi_wp2
                  case roundEnd => exact ⟨⟨k + 1, by omega, by go_num, by rw [e3], by first | rfl | trivial⟩, by simp [intOf]; omega⟩
              · have ek : k = 3 := by omega
                subst ek
                have e2 : (if i0 < 3 then (1 : Int) else 0) = 1 := if_pos (by omega)
                rw [e2]
                gi_wp2
                exact ⟨KeepsOthers.of_below HW2.out, But.of_below HW2.out, HI'.out.below HW2.out⟩
          exact AllReadyH.nil

        exact AllReadyH.nil

      exact AllReadyH.nil

    exact AllReadyH.nil
  case done =>
    rintro D xs W hD hSx hB hK
    have hbw : Below w.heap.size w W := hW.law.below.trans (hB.under (fun k hk e => e) (by omega))
    have hn : ∀ j, W.cell? ⟨w.heap.size, j, none⟩ = #[.int .u8 x.f0, .int .i64 x.f1, .string x.f2, .slice A x.f3.length c][j]? := fun j => (hB.cell (b := w.heap.size) (j := j) (by omega) (fun e => e)).trans (hW.law.n j)
    have hr : Box1 W (w.heap.size + 1) (.bool false) := ⟨(hB.cell (b := w.heap.size + 1) (j := 0) (by omega) (fun e => e)).trans hW.law.res.1, (hB.frozen (b := w.heap.size + 1) (j := 0) (by omega) (fun e => e)).trans hW.law.res.2⟩
    have HK := Aside0.mk hK
    have HD := Aside0.mk (Nat.le_trans (show w.heap.size ≤ Wl.heap.size by omega) hD)
    have HBW := Aside0.mk hbw
    obtain ⟨hr1, hr2⟩ := hr
    have hlen : x.f3.length ≤ 500 := by have h1 := szN_eq x; have h2 := szL_len x.f3; omega
    have hbwS : w.heap.size + 2 ≤ W.heap.size := by have := hB.size; omega
    clear hB hK hSx hbw
    by_cases hl : x.f3.length = 0
    · have e0 : ((x.f3.length : Int) == 0) = true := by simp [hl]
      gi_wp2
      exact leave1 rfl rfl (World.cell?_setCell_same' _ _ _ (by rw [hr1]; rfl)) (HBW.out.setCell (p := ⟨w.heap.size + 1, 0, none⟩) (by show w.heap.size ≤ w.heap.size + 1; omega) _) HD.out ((KeepsOthers.setCell _ _ _).same D _ HK.out rfl)
    · have e0 : ((x.f3.length : Int) == 0) = false := by simp [hl]
      have hu : 0 ≤ u ∧ u ≤ 255 := by simp [Lit.wf, IntKind.min, IntKind.max, IntKind.signed, IntKind.bits] at hv; omega
      obtain ⟨ad, cs, rfl, hrow, hcell⟩ := row_of HA.out hl
      obtain ⟨k, hk⟩ : ∃ k : Nat, u % (x.f3.length : Int) = k := ⟨(u % (x.f3.length : Int)).toNat, by have := Int.emod_nonneg u (b := (x.f3.length : Int)) (by omega); omega⟩
      have hkl : k < x.f3.length := by have := Int.emod_lt_of_pos u (b := (x.f3.length : Int)) (by omega); omega
      have hc5 : x.f3.length ≤ c := HA.out.2
      have hwk : IntKind.i64.wrap ((k : Int) + 1) = (k : Int) + 1 := by rw [IntKind.wrap_i64]; omega
      have hk1 : (k : Int) + 1 ≤ (x.f3.length : Int) := by omega
      have hk0 : 0 ≤ (k : Int) + 1 := by omega
      obtain ⟨ad2, hif, had2⟩ : ∃ ad2, (if c = k + 1 then some ad else some (ad.add ((k + 1) * 4))) = some ad2 ∧ (k + 1 < x.f3.length → ad2 = ad.add ((k + 1) * 4)) := by
        by_cases h : c = k + 1
        · exact ⟨ad, if_pos h, fun h2 => by omega⟩
        · exact ⟨_, if_neg h, fun _ => rfl⟩
      have HRW := Aside0.mk hrow
      have HCE := Aside0.mk hcell
      clear hrow hcell
      have HN : Aside0 (∀ w', Below W.heap.size W w' → ∀ j, w'.cell? ⟨w.heap.size, j, none⟩ = #[Value.int .u8 x.f0, .int .i64 x.f1, .string x.f2, .slice (some ad) x.f3.length c][j]?) := ⟨fun w' h j => (h.cell (p := ⟨w.heap.size, j, none⟩) (by have := hbwS; show w.heap.size < _; omega)).trans (hn j)⟩
      gi_wp2
      obtain ⟨ad', A3, c3, e3, g0, g1, g2, g3, l3, hC3⟩ := at_T24 HA.out.1 (k : Int) (by omega) (by omega)
      cases e3
      simp only [Int.toNat_natCast] at g0 g1 g2 g3
      have HZM : Aside0 (rd_T24 x.f3 (k : Int) ∈ x.f3) := ⟨by rw [rd_get hkl]; exact List.getElem_mem hkl⟩
      generalize rd_T24 x.f3 (k : Int) = z at *
      have HAZ : Aside0 (At w z A3 c3) := ⟨⟨hC3, l3⟩⟩
      have HZ : Aside0 (∀ w', Below w.heap.size w w' → w'.cell? (ad.add (k * 4)) = some (.int .u8 z.f0) ∧ w'.cell? ⟨(ad.add (k * 4)).block, (ad.add (k * 4)).off + 1, none⟩ = some (.int .i64 z.f1) ∧ w'.cell? ⟨(ad.add (k * 4)).block, (ad.add (k * 4)).off + 2, none⟩ = some (.string z.f2) ∧ w'.cell? ⟨(ad.add (k * 4)).block, (ad.add (k * 4)).off + 3, none⟩ = some (.slice A3 z.f3.length c3)) := ⟨fun w' h => ⟨pw_cell_below h g0, pw_cell_below h g1, pw_cell_below h g2, pw_cell_below h g3⟩⟩
      clear g0 g1 g2 g3 l3 hC3
      have NL1 : Aside0 ((cs.take k).flatten.length = k * 4) := ⟨by rw [flat_len _ (HRW.out.take k).four, List.length_take, HRW.out.len]; congr 1; omega⟩
      have NL2 : Aside0 ((cs.drop (k + 1)).flatten.length = (x.f3.length - (k + 1)) * 4) := ⟨by rw [flat_len _ (HRW.out.drop (k + 1)).four, List.length_drop, HRW.out.len]⟩
      have NO1 : Aside0 (∀ u' ∈ (cs.take k).flatten, u'.oneCell' = true) := ⟨fun u' h => by obtain ⟨d, h1, h2⟩ := List.mem_flatten.1 h; exact (HRW.out.take k).oneC d h1 u' h2⟩
      have NO2 : Aside0 (∀ u' ∈ (cs.drop (k + 1)).flatten, u'.oneCell' = true) := ⟨fun u' h => by obtain ⟨d, h1, h2⟩ := List.mem_flatten.1 h; exact (HRW.out.drop (k + 1)).oneC d h1 u' h2⟩
      have NW3 : Aside0 (∀ w', Below w.heap.size w w' → ∀ j u', cs.flatten[j]? = some u' → w'.cell? (ad.add j) = some u') := ⟨fun w' h => row_news HRW.out.four (fun i d h1 j u' h2 => pw_cell_below h (HCE.out i d h1 j u' h2))⟩
      have NL3 : Aside0 (cs.flatten.length = x.f3.length * 4) := ⟨by rw [flat_len _ HRW.out.four, HRW.out.len]⟩
      have NO3 : Aside0 (∀ u' ∈ cs.flatten, u'.oneCell' = true) := ⟨fun u' h => by obtain ⟨d, h1, h2⟩ := List.mem_flatten.1 h; exact HRW.out.oneC d h1 u' h2⟩
      have NW1 : Aside0 (∀ w', Below W.heap.size W w' → ∀ j u', (cs.take k).flatten[j]? = some u' → w'.cell? (ad.add j) = some u') := ⟨fun w' h => row_news (HRW.out.take k).four (fun i d h1 j u' h2 => pw_cell_below (HBW.out.trans (h.mono HBW.out.size)) (HCE.out i d (by have a := (List.getElem?_eq_some_iff.1 h1).1; rw [List.length_take] at a; rw [List.getElem?_take_of_lt (by omega)] at h1; exact h1) j u' h2))⟩
      have NW2 : Aside0 (∀ w', Below W.heap.size W w' → ∀ j u', (cs.drop (k + 1)).flatten[j]? = some u' → w'.cell? (ad2.add j) = some u') := ⟨fun w' h => by
        by_cases hlast : k + 1 < x.f3.length
        · rw [had2 hlast]
          refine row_news (HRW.out.drop (k + 1)).four (fun i d h1 j u' h2 => ?_)
          rw [add_add_addr, show (k + 1) * 4 + (i * 4 + j) = (k + 1 + i) * 4 + j by omega]
          rw [List.getElem?_drop] at h1
          exact pw_cell_below (HBW.out.trans (h.mono HBW.out.size)) (HCE.out _ d h1 j u' h2)
        · intro j u' h1
          have : cs.drop (k + 1) = [] := List.drop_eq_nil_of_le (by rw [HRW.out.len]; omega)
          rw [this] at h1
          simp at h1⟩
      obtain ⟨R19, HR19⟩ : ∃ R : Act → World → Prop, Aside0 (R = fun a W' => ∃ (bb : Nat) (A' : Option Addr) (c' : Nat) (t56 t61 t67 t68 : Value), a = { tmps := #[nodeV x (some ad) c, .int .u8 u, .pointer (some ⟨w.heap.size, 0, none⟩), undef, .pointer (some ⟨w.heap.size + 1, 0, none⟩), undef, undef, undef, undef, undef, .int .i64 k, .pointer (some ⟨bb, 0, none⟩), undef, undef, .bool true, .bool false, .agg #[.int .u8 x.f0, .int .i64 x.f1, .string x.f2, .slice (some ad) x.f3.length c], .int .i64 0, .bool false, .bool false, .agg #[.int .u8 x.f0, .int .i64 x.f1, .string x.f2, .slice (some ad) x.f3.length c], .bool true, .bool false, .bool false, .agg #[.int .u8 x.f0, .int .i64 x.f1, .string x.f2, .slice (some ad) x.f3.length c], .func (.func 89) #[] #[.pointer (some ⟨S, 0, none⟩)], undef, undef, undef, undef, undef, undef, undef, undef, undef, undef, undef, undef, undef, undef, undef, undef, undef, undef, undef, undef, .pointer (some ⟨w.heap.size, 3, none⟩), .slice (some ad) x.f3.length c, .int .i64 x.f3.length, .bool false, .int .u8 u, .int .i64 u, .pointer (some ⟨w.heap.size, 3, none⟩), .slice (some ad) x.f3.length c, .int .i64 x.f3.length, .int .i64 k, t56, .pointer (some ⟨w.heap.size, 3, none⟩), .slice (some ad) x.f3.length c, .int .i64 k, .slice (some ad) k c, t61, .pointer (some ⟨w.heap.size, 3, none⟩), .slice (some ad) x.f3.length c, .int .i64 k, .int .i64 (k + 1), .slice (some ad2) (x.f3.length - (k + 1)) (c - (k + 1)), t67, t68, undef, undef, undef, undef, undef, undef, undef, undef, undef, undef, undef, undef, undef, undef, undef, undef, undef, undef, undef, undef, undef, undef, undef, undef, undef, undef, undef, undef, undef, undef, undef], defers := [{ target := .collected D, args := #[] }] } ∧ Below W.heap.size W W' ∧ W.heap.size ≤ bb ∧ (∀ j, W'.cell? ⟨bb, j, none⟩ = #[Value.int .u8 47, .int .i64 0, .string ⟨#[]⟩, .slice A' (x.f3.take k ++ x.f3.drop (k + 1)).length c'][j]?) ∧ At W' ⟨47, 0, ⟨#[]⟩, x.f3.take k ++ x.f3.drop (k + 1)⟩ A' c') := ⟨_, ⟨rfl⟩⟩
      refine wpIn_wide.2 ?_
      refine region_held_cut R19 (fun w' => Below W.heap.size W w') (by kernel_rfl) (Below.refl _ W).drew ?next (fun hHeld => ?walk)
      case walk =>
        have B0 := hHeld
        refine held_take 1 (v := _) rfl (by kernel_rfl) (by kernel_rfl) (by kernel_rfl) (by rfl) (by assumption) (fun w' hSw => by
          skip
          go_simp
          try with_reducible rfl) ?_
        try simp only [Act.put, List.setIfInBounds_toArray, List.set_cons_zero, List.set_cons_succ]
        refine held_take 2 (v := _) rfl (by kernel_rfl) (by kernel_rfl) (by kernel_rfl) (by rfl) (by assumption) (fun w' hSw => by
          have hn3 := HN.out w' hSw 3
          simp at hn3
          go_simp
          try with_reducible rfl) ?_
        try simp only [Act.put, List.setIfInBounds_toArray, List.set_cons_zero, List.set_cons_succ]
        refine held_take 3 (v := _) rfl (by kernel_rfl) (by kernel_rfl) (by kernel_rfl) (by rfl) (by assumption) (fun w' hSw => by
          skip
          go_simp
          try with_reducible rfl) ?_
        try simp only [Act.put, List.setIfInBounds_toArray, List.set_cons_zero, List.set_cons_succ]
        refine held_take 4 (v := _) rfl (by kernel_rfl) (by kernel_rfl) (by kernel_rfl) (by rfl) (by assumption) (fun w' hSw => by
          have hkc : k ≤ c := by omega
          go_simp
          try with_reducible rfl) ?_
        try simp only [Act.put, List.setIfInBounds_toArray, List.set_cons_zero, List.set_cons_succ]
        refine held_take 6 (v := _) rfl (by kernel_rfl) (by kernel_rfl) (by kernel_rfl) (by rfl) (by assumption) (fun w' hSw => by
          skip
          go_simp
          try with_reducible rfl) ?_
        try simp only [Act.put, List.setIfInBounds_toArray, List.set_cons_zero, List.set_cons_succ]
        refine held_take 7 (v := _) rfl (by kernel_rfl) (by kernel_rfl) (by kernel_rfl) (by rfl) (by assumption) (fun w' hSw => by
          have hn3 := HN.out w' hSw 3
          simp at hn3
          go_simp
          try with_reducible rfl) ?_
        try simp only [Act.put, List.setIfInBounds_toArray, List.set_cons_zero, List.set_cons_succ]
        refine held_take 8 (v := _) rfl (by kernel_rfl) (by kernel_rfl) (by kernel_rfl) (by rfl) (by assumption) (fun w' hSw => by
          skip
          go_simp
          try with_reducible rfl) ?_
        try simp only [Act.put, List.setIfInBounds_toArray, List.set_cons_zero, List.set_cons_succ]
        refine held_take 9 (v := _) rfl (by kernel_rfl) (by kernel_rfl) (by kernel_rfl) (by rfl) (by assumption) (fun w' hSw => by
          skip
          go_simp
          try with_reducible rfl) ?_
        try simp only [Act.put, List.setIfInBounds_toArray, List.set_cons_zero, List.set_cons_succ]
        refine held_take 10 (v := _) rfl (by kernel_rfl) (by kernel_rfl) (by kernel_rfl) (by rfl) (by assumption) (fun w' hSw => by
          have hkc : k + 1 ≤ c := by omega
          go_simp
          try with_reducible rfl) ?_
        try simp only [Act.put, List.setIfInBounds_toArray, List.set_cons_zero, List.set_cons_succ]
        refine wpAnyH_ready (rs := [0, 13]) (by kernel_rfl) (by simp) ?_
        refine held_cons rfl (by rfl) (fun K hK => ?_) ?_
        · unfold Oper.wp
          go_simp
          refine hK.out _ _ (hHeld.alloc hHeld.size _) (fun hHeld => ?_)
          clear hK K
          try simp only [Act.put, List.setIfInBounds_toArray, List.set_cons_zero, List.set_cons_succ]
          refine held_world (fun W' => Below W.heap.size W W' ∧ W'.ownsRow W.heap.size 24 4 (.slice (some ⟨W.heap.size, 0, none⟩) 0 0) (0) ([])) ⟨hHeld, World.ownsRow_made _ #[] 0 B0.size (Nat.zero_le _) rfl⟩ (fun w19_1 hf => ?_)
          obtain ⟨B1, G1⟩ := hf
          clear hHeld
          have hHeld := B1
          refine wpAnyH_ready (rs := [5, 13]) (by kernel_rfl) (by simp) ?_
          refine held_cons rfl (by rfl) (fun K hK => ?_) ?_
          · refine wp_append_at (.tmp 56) (.tmp 60) 22 rfl W.heap.size 24 (.agg #[.int .u8 0, .int .i64 0, .string ⟨#[]⟩, .slice none 0 0]) 4 56 Tryd.underlying22 info24 rfl (by decide) _ _ _ ([]) rfl G1 _ (k) _ ((cs.take k).flatten) rfl (NL1.out) ((NW1.out _ B1)) (NO1.out) (k) (by first | rfl | exact Nat.zero_add _) ((cs.take k).flatten) (by first | rfl | exact List.nil_append _) (by omega) (by decide) B1.size ?_
            intro A19_1 c19_1 w19_2 G2 hg hat
            have B2 : Below W.heap.size W w19_2 := B1.grown hg B1.size (fun q e => (World.ownsRow.lt G1 q e).1)
            clear hg hat
            refine hK.out _ _ B2 (fun hHeld => ?_)
            clear hK K
            try simp only [Act.put, List.setIfInBounds_toArray, List.set_cons_zero, List.set_cons_succ]
            refine wpAnyH_ready (rs := [11, 13]) (by kernel_rfl) (by simp) ?_
            refine held_cons rfl (by rfl) (fun K hK => ?_) ?_
            · refine wp_append_at (.tmp 61) (.tmp 66) 22 rfl W.heap.size 24 (.agg #[.int .u8 0, .int .i64 0, .string ⟨#[]⟩, .slice none 0 0]) 4 56 Tryd.underlying22 info24 rfl (by decide) _ _ _ ((cs.take k).flatten) rfl G2 _ (x.f3.length - (k + 1)) _ ((cs.drop (k + 1)).flatten) rfl (NL2.out) ((NW2.out _ B2)) (NO2.out) (k + (x.f3.length - (k + 1))) (by first | rfl | exact Nat.zero_add _) ((cs.take k).flatten ++ (cs.drop (k + 1)).flatten) (by first | rfl | exact List.nil_append _) (by omega) (by decide) B2.size ?_
              intro A19_2 c19_2 w19_3 G3 hg hat
              have B3 : Below W.heap.size W w19_3 := B2.grown hg B2.size (fun q e => (World.ownsRow.lt G2 q e).1)
              clear hg hat
              refine hK.out _ _ B3 (fun hHeld => ?_)
              clear hK K
              try simp only [Act.put, List.setIfInBounds_toArray, List.set_cons_zero, List.set_cons_succ]
              refine held_take 12 (v := _) rfl (by kernel_rfl) (by kernel_rfl) (by kernel_rfl) (by rfl) (by assumption) (fun w' hSw => by
                skip
                go_simp
                try with_reducible rfl) ?_
              try simp only [Act.put, List.setIfInBounds_toArray, List.set_cons_zero, List.set_cons_succ]
              refine wpAnyH_ready (rs := [13]) (by kernel_rfl) (by simp) ?_
              refine held_cons rfl (by rfl) (fun K hK => ?_) ?_
              · unfold Oper.wp
                go_simp
                refine hK.out _ _ (hHeld.alloc hHeld.size _) (fun hHeld => ?_)
                clear hK K
                try simp only [Act.put, List.setIfInBounds_toArray, List.set_cons_zero, List.set_cons_succ]
                have BX := B3.size
                refine held_world (fun W' => Below W.heap.size W W' ∧ W'.heap[w19_3.heap.size]? = some (.cells #[.int .u8 0, .int .i64 0, .string ⟨#[]⟩, .slice none 0 0] 24) ∧ W'.ownsRow W.heap.size 24 4 (.slice A19_2 (k + (x.f3.length - (k + 1))) c19_2) (k + (x.f3.length - (k + 1))) ((cs.take k).flatten ++ (cs.drop (k + 1)).flatten) ∧ (.slice A19_2 (k + (x.f3.length - (k + 1))) c19_2 : Value).ownBlock ≠ some (w19_3.heap.size)) ⟨hHeld, World.alloc_heap_new _ _, World.ownsRow.alloc G3 _, own_ne G3⟩ (fun w19_4 hf => ?_)
                obtain ⟨B4, X4, G4, NX4⟩ := hf
                clear hHeld
                have hHeld := B4
                refine wpAnyH_ready (rs := [14]) (by kernel_rfl) (by simp) ?_
                refine held_cons rfl (by rfl) (fun K hK => ?_) ?_
                · unfold Oper.wp
                  have hz := heap_cells X4
                  have hzf := heap_frozen X4
                  go_simp
                  refine hK.out _ _ (B4.trans (set4_below (w19_3.heap.size) (by first | exact Nat.le_refl _ | exact BX) _ _ _ _)) (fun hHeld => ?_)
                  clear hK K
                  try simp only [Act.put, List.setIfInBounds_toArray, List.set_cons_zero, List.set_cons_succ]
                  refine wpAnyH_done (by kernel_rfl) ?_ _
                  show R19 _ _
                  rw [HR19.out]
                  have eL : k + (x.f3.length - (k + 1)) = (x.f3.take k ++ x.f3.drop (k + 1)).length := by simp; try omega
                  have eF : (cs.take k).flatten ++ (cs.drop (k + 1)).flatten = (cs.take k ++ cs.drop (k + 1)).flatten := by simp
                  have hB4 : Below W.heap.size W (put4 w19_4 (w19_3.heap.size) (.int .u8 47) (.int .i64 0) (.string ⟨#[]⟩) (.slice A19_2 (k + (x.f3.length - (k + 1))) c19_2)) := B4.trans (set4_below (w19_3.heap.size) (by first | exact Nat.le_refl _ | exact BX) _ _ _ _)
                  have hG4 : (put4 w19_4 (w19_3.heap.size) (.int .u8 47) (.int .i64 0) (.string ⟨#[]⟩) (.slice A19_2 (k + (x.f3.length - (k + 1))) c19_2)).ownsRow W.heap.size 24 4 (.slice A19_2 (k + (x.f3.length - (k + 1))) c19_2) (k + (x.f3.length - (k + 1))) ((cs.take k).flatten ++ (cs.drop (k + 1)).flatten) := own_keep G4 (fun g e => put4_far _ _ _ (fun h => NX4 (by rw [e, h])) _ _ _ _)
                  rw [eF] at hG4
                  have hAt : At (put4 w19_4 (w19_3.heap.size) (.int .u8 47) (.int .i64 0) (.string ⟨#[]⟩) (.slice A19_2 (k + (x.f3.length - (k + 1))) c19_2)) ⟨47, 0, ⟨#[]⟩, x.f3.take k ++ x.f3.drop (k + 1)⟩ _ _ := row_tree hG4 ((fun h => ((HRW.out.below ((HBW.out.trans (h.mono HBW.out.size)))).take k).append ((HRW.out.below ((HBW.out.trans (h.mono HBW.out.size)))).drop (k + 1))) hB4) eL (by omega) 47 0 ⟨#[]⟩
                  have hcl : ∀ j, (put4 w19_4 (w19_3.heap.size) (.int .u8 47) (.int .i64 0) (.string ⟨#[]⟩) (.slice A19_2 (k + (x.f3.length - (k + 1))) c19_2)).cell? ⟨w19_3.heap.size, j, none⟩ = #[Value.int .u8 47, .int .i64 0, .string ⟨#[]⟩, .slice A19_2 (x.f3.take k ++ x.f3.drop (k + 1)).length c19_2][j]? := fun j => by rw [← eL]; exact set4 _ _ hz _ _ _ _ j
                  unfold put4 at hcl hAt
                  exact ⟨w19_3.heap.size, _, _, _, _, _, _, rfl, hHeld, (by first | exact Nat.le_refl _ | exact BX), hcl, hAt⟩
                exact AllReadyH.nil
              exact AllReadyH.nil
            refine held_cons rfl (by rfl) (fun K hK => ?_) ?_
            · unfold Oper.wp
              go_simp
              refine hK.out _ _ (hHeld.alloc hHeld.size _) (fun hHeld => ?_)
              clear hK K
              try simp only [Act.put, List.setIfInBounds_toArray, List.set_cons_zero, List.set_cons_succ]
              have BX := B2.size
              refine held_world (fun W' => Below W.heap.size W W' ∧ W'.heap[w19_2.heap.size]? = some (.cells #[.int .u8 0, .int .i64 0, .string ⟨#[]⟩, .slice none 0 0] 24) ∧ W'.ownsRow W.heap.size 24 4 (.slice A19_1 (k) c19_1) (k) ((cs.take k).flatten) ∧ (.slice A19_1 (k) c19_1 : Value).ownBlock ≠ some (w19_2.heap.size)) ⟨hHeld, World.alloc_heap_new _ _, World.ownsRow.alloc G2 _, own_ne G2⟩ (fun w19_3 hf => ?_)
              obtain ⟨B3, X3, G3, NX3⟩ := hf
              clear hHeld
              have hHeld := B3
              refine wpAnyH_ready (rs := [11]) (by kernel_rfl) (by simp) ?_
              refine held_cons rfl (by rfl) (fun K hK => ?_) ?_
              · refine wp_append_at (.tmp 61) (.tmp 66) 22 rfl W.heap.size 24 (.agg #[.int .u8 0, .int .i64 0, .string ⟨#[]⟩, .slice none 0 0]) 4 56 Tryd.underlying22 info24 rfl (by decide) _ _ _ ((cs.take k).flatten) rfl G3 _ (x.f3.length - (k + 1)) _ ((cs.drop (k + 1)).flatten) rfl (NL2.out) ((NW2.out _ B3)) (NO2.out) (k + (x.f3.length - (k + 1))) (by first | rfl | exact Nat.zero_add _) ((cs.take k).flatten ++ (cs.drop (k + 1)).flatten) (by first | rfl | exact List.nil_append _) (by omega) (by decide) B3.size ?_
                intro A19_3 c19_3 w19_4 G4 hg hat
                have B4 : Below W.heap.size W w19_4 := B3.grown hg B3.size (fun q e => (World.ownsRow.lt G3 q e).1)
                have X4 := heap_keep hg X3 NX3
                have NX4 := at_ne hat NX3 (heap_lt X3)
                clear hg hat
                refine hK.out _ _ B4 (fun hHeld => ?_)
                clear hK K
                try simp only [Act.put, List.setIfInBounds_toArray, List.set_cons_zero, List.set_cons_succ]
                refine held_take 12 (v := _) rfl (by kernel_rfl) (by kernel_rfl) (by kernel_rfl) (by rfl) (by assumption) (fun w' hSw => by
                  skip
                  go_simp
                  try with_reducible rfl) ?_
                try simp only [Act.put, List.setIfInBounds_toArray, List.set_cons_zero, List.set_cons_succ]
                refine wpAnyH_ready (rs := [14]) (by kernel_rfl) (by simp) ?_
                refine held_cons rfl (by rfl) (fun K hK => ?_) ?_
                · unfold Oper.wp
                  have hz := heap_cells X4
                  have hzf := heap_frozen X4
                  go_simp
                  refine hK.out _ _ (B4.trans (set4_below (w19_2.heap.size) (by first | exact Nat.le_refl _ | exact BX) _ _ _ _)) (fun hHeld => ?_)
                  clear hK K
                  try simp only [Act.put, List.setIfInBounds_toArray, List.set_cons_zero, List.set_cons_succ]
                  refine wpAnyH_done (by kernel_rfl) ?_ _
                  show R19 _ _
                  rw [HR19.out]
                  have eL : k + (x.f3.length - (k + 1)) = (x.f3.take k ++ x.f3.drop (k + 1)).length := by simp; try omega
                  have eF : (cs.take k).flatten ++ (cs.drop (k + 1)).flatten = (cs.take k ++ cs.drop (k + 1)).flatten := by simp
                  have hB4 : Below W.heap.size W (put4 w19_4 (w19_2.heap.size) (.int .u8 47) (.int .i64 0) (.string ⟨#[]⟩) (.slice A19_3 (k + (x.f3.length - (k + 1))) c19_3)) := B4.trans (set4_below (w19_2.heap.size) (by first | exact Nat.le_refl _ | exact BX) _ _ _ _)
                  have hG4 : (put4 w19_4 (w19_2.heap.size) (.int .u8 47) (.int .i64 0) (.string ⟨#[]⟩) (.slice A19_3 (k + (x.f3.length - (k + 1))) c19_3)).ownsRow W.heap.size 24 4 (.slice A19_3 (k + (x.f3.length - (k + 1))) c19_3) (k + (x.f3.length - (k + 1))) ((cs.take k).flatten ++ (cs.drop (k + 1)).flatten) := own_keep G4 (fun g e => put4_far _ _ _ (fun h => NX4 (by rw [e, h])) _ _ _ _)
                  rw [eF] at hG4
                  have hAt : At (put4 w19_4 (w19_2.heap.size) (.int .u8 47) (.int .i64 0) (.string ⟨#[]⟩) (.slice A19_3 (k + (x.f3.length - (k + 1))) c19_3)) ⟨47, 0, ⟨#[]⟩, x.f3.take k ++ x.f3.drop (k + 1)⟩ _ _ := row_tree hG4 ((fun h => ((HRW.out.below ((HBW.out.trans (h.mono HBW.out.size)))).take k).append ((HRW.out.below ((HBW.out.trans (h.mono HBW.out.size)))).drop (k + 1))) hB4) eL (by omega) 47 0 ⟨#[]⟩
                  have hcl : ∀ j, (put4 w19_4 (w19_2.heap.size) (.int .u8 47) (.int .i64 0) (.string ⟨#[]⟩) (.slice A19_3 (k + (x.f3.length - (k + 1))) c19_3)).cell? ⟨w19_2.heap.size, j, none⟩ = #[Value.int .u8 47, .int .i64 0, .string ⟨#[]⟩, .slice A19_3 (x.f3.take k ++ x.f3.drop (k + 1)).length c19_3][j]? := fun j => by rw [← eL]; exact set4 _ _ hz _ _ _ _ j
                  unfold put4 at hcl hAt
                  exact ⟨w19_2.heap.size, _, _, _, _, _, _, rfl, hHeld, (by first | exact Nat.le_refl _ | exact BX), hcl, hAt⟩
                exact AllReadyH.nil
              exact AllReadyH.nil
            exact AllReadyH.nil
          refine held_cons rfl (by rfl) (fun K hK => ?_) ?_
          · unfold Oper.wp
            go_simp
            refine hK.out _ _ (hHeld.alloc hHeld.size _) (fun hHeld => ?_)
            clear hK K
            try simp only [Act.put, List.setIfInBounds_toArray, List.set_cons_zero, List.set_cons_succ]
            have BX := B1.size
            refine held_world (fun W' => Below W.heap.size W W' ∧ W'.heap[w19_1.heap.size]? = some (.cells #[.int .u8 0, .int .i64 0, .string ⟨#[]⟩, .slice none 0 0] 24) ∧ W'.ownsRow W.heap.size 24 4 (.slice (some ⟨W.heap.size, 0, none⟩) 0 0) (0) ([]) ∧ (.slice (some ⟨W.heap.size, 0, none⟩) 0 0 : Value).ownBlock ≠ some (w19_1.heap.size)) ⟨hHeld, World.alloc_heap_new _ _, World.ownsRow.alloc G1 _, own_ne G1⟩ (fun w19_2 hf => ?_)
            obtain ⟨B2, X2, G2, NX2⟩ := hf
            clear hHeld
            have hHeld := B2
            refine wpAnyH_ready (rs := [5]) (by kernel_rfl) (by simp) ?_
            refine held_cons rfl (by rfl) (fun K hK => ?_) ?_
            · refine wp_append_at (.tmp 56) (.tmp 60) 22 rfl W.heap.size 24 (.agg #[.int .u8 0, .int .i64 0, .string ⟨#[]⟩, .slice none 0 0]) 4 56 Tryd.underlying22 info24 rfl (by decide) _ _ _ ([]) rfl G2 _ (k) _ ((cs.take k).flatten) rfl (NL1.out) ((NW1.out _ B2)) (NO1.out) (k) (by first | rfl | exact Nat.zero_add _) ((cs.take k).flatten) (by first | rfl | exact List.nil_append _) (by omega) (by decide) B2.size ?_
              intro A19_2 c19_2 w19_3 G3 hg hat
              have B3 : Below W.heap.size W w19_3 := B2.grown hg B2.size (fun q e => (World.ownsRow.lt G2 q e).1)
              have X3 := heap_keep hg X2 NX2
              have NX3 := at_ne hat NX2 (heap_lt X2)
              clear hg hat
              refine hK.out _ _ B3 (fun hHeld => ?_)
              clear hK K
              try simp only [Act.put, List.setIfInBounds_toArray, List.set_cons_zero, List.set_cons_succ]
              refine wpAnyH_ready (rs := [11]) (by kernel_rfl) (by simp) ?_
              refine held_cons rfl (by rfl) (fun K hK => ?_) ?_
              · refine wp_append_at (.tmp 61) (.tmp 66) 22 rfl W.heap.size 24 (.agg #[.int .u8 0, .int .i64 0, .string ⟨#[]⟩, .slice none 0 0]) 4 56 Tryd.underlying22 info24 rfl (by decide) _ _ _ ((cs.take k).flatten) rfl G3 _ (x.f3.length - (k + 1)) _ ((cs.drop (k + 1)).flatten) rfl (NL2.out) ((NW2.out _ B3)) (NO2.out) (k + (x.f3.length - (k + 1))) (by first | rfl | exact Nat.zero_add _) ((cs.take k).flatten ++ (cs.drop (k + 1)).flatten) (by first | rfl | exact List.nil_append _) (by omega) (by decide) B3.size ?_
                intro A19_3 c19_3 w19_4 G4 hg hat
                have B4 : Below W.heap.size W w19_4 := B3.grown hg B3.size (fun q e => (World.ownsRow.lt G3 q e).1)
                have X4 := heap_keep hg X3 NX3
                have NX4 := at_ne hat NX3 (heap_lt X3)
                clear hg hat
                refine hK.out _ _ B4 (fun hHeld => ?_)
                clear hK K
                try simp only [Act.put, List.setIfInBounds_toArray, List.set_cons_zero, List.set_cons_succ]
                refine held_take 12 (v := _) rfl (by kernel_rfl) (by kernel_rfl) (by kernel_rfl) (by rfl) (by assumption) (fun w' hSw => by
                  skip
                  go_simp
                  try with_reducible rfl) ?_
                try simp only [Act.put, List.setIfInBounds_toArray, List.set_cons_zero, List.set_cons_succ]
                refine wpAnyH_ready (rs := [14]) (by kernel_rfl) (by simp) ?_
                refine held_cons rfl (by rfl) (fun K hK => ?_) ?_
                · unfold Oper.wp
                  have hz := heap_cells X4
                  have hzf := heap_frozen X4
                  go_simp
                  refine hK.out _ _ (B4.trans (set4_below (w19_1.heap.size) (by first | exact Nat.le_refl _ | exact BX) _ _ _ _)) (fun hHeld => ?_)
                  clear hK K
                  try simp only [Act.put, List.setIfInBounds_toArray, List.set_cons_zero, List.set_cons_succ]
                  refine wpAnyH_done (by kernel_rfl) ?_ _
                  show R19 _ _
                  rw [HR19.out]
                  have eL : k + (x.f3.length - (k + 1)) = (x.f3.take k ++ x.f3.drop (k + 1)).length := by simp; try omega
                  have eF : (cs.take k).flatten ++ (cs.drop (k + 1)).flatten = (cs.take k ++ cs.drop (k + 1)).flatten := by simp
                  have hB4 : Below W.heap.size W (put4 w19_4 (w19_1.heap.size) (.int .u8 47) (.int .i64 0) (.string ⟨#[]⟩) (.slice A19_3 (k + (x.f3.length - (k + 1))) c19_3)) := B4.trans (set4_below (w19_1.heap.size) (by first | exact Nat.le_refl _ | exact BX) _ _ _ _)
                  have hG4 : (put4 w19_4 (w19_1.heap.size) (.int .u8 47) (.int .i64 0) (.string ⟨#[]⟩) (.slice A19_3 (k + (x.f3.length - (k + 1))) c19_3)).ownsRow W.heap.size 24 4 (.slice A19_3 (k + (x.f3.length - (k + 1))) c19_3) (k + (x.f3.length - (k + 1))) ((cs.take k).flatten ++ (cs.drop (k + 1)).flatten) := own_keep G4 (fun g e => put4_far _ _ _ (fun h => NX4 (by rw [e, h])) _ _ _ _)
                  rw [eF] at hG4
                  have hAt : At (put4 w19_4 (w19_1.heap.size) (.int .u8 47) (.int .i64 0) (.string ⟨#[]⟩) (.slice A19_3 (k + (x.f3.length - (k + 1))) c19_3)) ⟨47, 0, ⟨#[]⟩, x.f3.take k ++ x.f3.drop (k + 1)⟩ _ _ := row_tree hG4 ((fun h => ((HRW.out.below ((HBW.out.trans (h.mono HBW.out.size)))).take k).append ((HRW.out.below ((HBW.out.trans (h.mono HBW.out.size)))).drop (k + 1))) hB4) eL (by omega) 47 0 ⟨#[]⟩
                  have hcl : ∀ j, (put4 w19_4 (w19_1.heap.size) (.int .u8 47) (.int .i64 0) (.string ⟨#[]⟩) (.slice A19_3 (k + (x.f3.length - (k + 1))) c19_3)).cell? ⟨w19_1.heap.size, j, none⟩ = #[Value.int .u8 47, .int .i64 0, .string ⟨#[]⟩, .slice A19_3 (x.f3.take k ++ x.f3.drop (k + 1)).length c19_3][j]? := fun j => by rw [← eL]; exact set4 _ _ hz _ _ _ _ j
                  unfold put4 at hcl hAt
                  exact ⟨w19_1.heap.size, _, _, _, _, _, _, rfl, hHeld, (by first | exact Nat.le_refl _ | exact BX), hcl, hAt⟩
                exact AllReadyH.nil
              exact AllReadyH.nil
            exact AllReadyH.nil
          exact AllReadyH.nil
        refine held_cons rfl (by rfl) (fun K hK => ?_) ?_
        · unfold Oper.wp
          go_simp
          refine hK.out _ _ (hHeld.alloc hHeld.size _) (fun hHeld => ?_)
          clear hK K
          try simp only [Act.put, List.setIfInBounds_toArray, List.set_cons_zero, List.set_cons_succ]
          have BX := B0.size
          refine held_world (fun W' => Below W.heap.size W W' ∧ W'.heap[W.heap.size]? = some (.cells #[.int .u8 0, .int .i64 0, .string ⟨#[]⟩, .slice none 0 0] 24)) ⟨hHeld, World.alloc_heap_new _ _⟩ (fun w19_1 hf => ?_)
          obtain ⟨B1, X1⟩ := hf
          clear hHeld
          have hHeld := B1
          refine wpAnyH_ready (rs := [0]) (by kernel_rfl) (by simp) ?_
          refine held_cons rfl (by rfl) (fun K hK => ?_) ?_
          · unfold Oper.wp
            go_simp
            refine hK.out _ _ (hHeld.alloc hHeld.size _) (fun hHeld => ?_)
            clear hK K
            try simp only [Act.put, List.setIfInBounds_toArray, List.set_cons_zero, List.set_cons_succ]
            refine held_world (fun W' => Below W.heap.size W W' ∧ W'.heap[W.heap.size]? = some (.cells #[.int .u8 0, .int .i64 0, .string ⟨#[]⟩, .slice none 0 0] 24) ∧ W'.ownsRow W.heap.size 24 4 (.slice (some ⟨w19_1.heap.size, 0, none⟩) 0 0) (0) ([]) ∧ (.slice (some ⟨w19_1.heap.size, 0, none⟩) 0 0 : Value).ownBlock ≠ some (W.heap.size)) ⟨hHeld, heap_alloc X1, World.ownsRow_made _ #[] 0 B1.size (Nat.zero_le _) rfl, (fun e => by have := heap_lt X1; simp [Value.ownBlock] at e; (try simp at this); omega)⟩ (fun w19_2 hf => ?_)
            obtain ⟨B2, X2, G2, NX2⟩ := hf
            clear hHeld
            have hHeld := B2
            refine wpAnyH_ready (rs := [5]) (by kernel_rfl) (by simp) ?_
            refine held_cons rfl (by rfl) (fun K hK => ?_) ?_
            · refine wp_append_at (.tmp 56) (.tmp 60) 22 rfl W.heap.size 24 (.agg #[.int .u8 0, .int .i64 0, .string ⟨#[]⟩, .slice none 0 0]) 4 56 Tryd.underlying22 info24 rfl (by decide) _ _ _ ([]) rfl G2 _ (k) _ ((cs.take k).flatten) rfl (NL1.out) ((NW1.out _ B2)) (NO1.out) (k) (by first | rfl | exact Nat.zero_add _) ((cs.take k).flatten) (by first | rfl | exact List.nil_append _) (by omega) (by decide) B2.size ?_
              intro A19_2 c19_2 w19_3 G3 hg hat
              have B3 : Below W.heap.size W w19_3 := B2.grown hg B2.size (fun q e => (World.ownsRow.lt G2 q e).1)
              have X3 := heap_keep hg X2 NX2
              have NX3 := at_ne hat NX2 (heap_lt X2)
              clear hg hat
              refine hK.out _ _ B3 (fun hHeld => ?_)
              clear hK K
              try simp only [Act.put, List.setIfInBounds_toArray, List.set_cons_zero, List.set_cons_succ]
              refine wpAnyH_ready (rs := [11]) (by kernel_rfl) (by simp) ?_
              refine held_cons rfl (by rfl) (fun K hK => ?_) ?_
              · refine wp_append_at (.tmp 61) (.tmp 66) 22 rfl W.heap.size 24 (.agg #[.int .u8 0, .int .i64 0, .string ⟨#[]⟩, .slice none 0 0]) 4 56 Tryd.underlying22 info24 rfl (by decide) _ _ _ ((cs.take k).flatten) rfl G3 _ (x.f3.length - (k + 1)) _ ((cs.drop (k + 1)).flatten) rfl (NL2.out) ((NW2.out _ B3)) (NO2.out) (k + (x.f3.length - (k + 1))) (by first | rfl | exact Nat.zero_add _) ((cs.take k).flatten ++ (cs.drop (k + 1)).flatten) (by first | rfl | exact List.nil_append _) (by omega) (by decide) B3.size ?_
                intro A19_3 c19_3 w19_4 G4 hg hat
                have B4 : Below W.heap.size W w19_4 := B3.grown hg B3.size (fun q e => (World.ownsRow.lt G3 q e).1)
                have X4 := heap_keep hg X3 NX3
                have NX4 := at_ne hat NX3 (heap_lt X3)
                clear hg hat
                refine hK.out _ _ B4 (fun hHeld => ?_)
                clear hK K
                try simp only [Act.put, List.setIfInBounds_toArray, List.set_cons_zero, List.set_cons_succ]
                refine held_take 12 (v := _) rfl (by kernel_rfl) (by kernel_rfl) (by kernel_rfl) (by rfl) (by assumption) (fun w' hSw => by
                  skip
                  go_simp
                  try with_reducible rfl) ?_
                try simp only [Act.put, List.setIfInBounds_toArray, List.set_cons_zero, List.set_cons_succ]
                refine wpAnyH_ready (rs := [14]) (by kernel_rfl) (by simp) ?_
                refine held_cons rfl (by rfl) (fun K hK => ?_) ?_
                · unfold Oper.wp
                  have hz := heap_cells X4
                  have hzf := heap_frozen X4
                  go_simp
                  refine hK.out _ _ (B4.trans (set4_below (W.heap.size) (by first | exact Nat.le_refl _ | exact BX) _ _ _ _)) (fun hHeld => ?_)
                  clear hK K
                  try simp only [Act.put, List.setIfInBounds_toArray, List.set_cons_zero, List.set_cons_succ]
                  refine wpAnyH_done (by kernel_rfl) ?_ _
                  show R19 _ _
                  rw [HR19.out]
                  have eL : k + (x.f3.length - (k + 1)) = (x.f3.take k ++ x.f3.drop (k + 1)).length := by simp; try omega
                  have eF : (cs.take k).flatten ++ (cs.drop (k + 1)).flatten = (cs.take k ++ cs.drop (k + 1)).flatten := by simp
                  have hB4 : Below W.heap.size W (put4 w19_4 (W.heap.size) (.int .u8 47) (.int .i64 0) (.string ⟨#[]⟩) (.slice A19_3 (k + (x.f3.length - (k + 1))) c19_3)) := B4.trans (set4_below (W.heap.size) (by first | exact Nat.le_refl _ | exact BX) _ _ _ _)
                  have hG4 : (put4 w19_4 (W.heap.size) (.int .u8 47) (.int .i64 0) (.string ⟨#[]⟩) (.slice A19_3 (k + (x.f3.length - (k + 1))) c19_3)).ownsRow W.heap.size 24 4 (.slice A19_3 (k + (x.f3.length - (k + 1))) c19_3) (k + (x.f3.length - (k + 1))) ((cs.take k).flatten ++ (cs.drop (k + 1)).flatten) := own_keep G4 (fun g e => put4_far _ _ _ (fun h => NX4 (by rw [e, h])) _ _ _ _)
                  rw [eF] at hG4
                  have hAt : At (put4 w19_4 (W.heap.size) (.int .u8 47) (.int .i64 0) (.string ⟨#[]⟩) (.slice A19_3 (k + (x.f3.length - (k + 1))) c19_3)) ⟨47, 0, ⟨#[]⟩, x.f3.take k ++ x.f3.drop (k + 1)⟩ _ _ := row_tree hG4 ((fun h => ((HRW.out.below ((HBW.out.trans (h.mono HBW.out.size)))).take k).append ((HRW.out.below ((HBW.out.trans (h.mono HBW.out.size)))).drop (k + 1))) hB4) eL (by omega) 47 0 ⟨#[]⟩
                  have hcl : ∀ j, (put4 w19_4 (W.heap.size) (.int .u8 47) (.int .i64 0) (.string ⟨#[]⟩) (.slice A19_3 (k + (x.f3.length - (k + 1))) c19_3)).cell? ⟨W.heap.size, j, none⟩ = #[Value.int .u8 47, .int .i64 0, .string ⟨#[]⟩, .slice A19_3 (x.f3.take k ++ x.f3.drop (k + 1)).length c19_3][j]? := fun j => by rw [← eL]; exact set4 _ _ hz _ _ _ _ j
                  unfold put4 at hcl hAt
                  exact ⟨W.heap.size, _, _, _, _, _, _, rfl, hHeld, (by first | exact Nat.le_refl _ | exact BX), hcl, hAt⟩
                exact AllReadyH.nil
              exact AllReadyH.nil
            exact AllReadyH.nil
          exact AllReadyH.nil
        exact AllReadyH.nil
      case next =>
        intro a V4 h
        rw [HR19.out] at h
        obtain ⟨bb1, A1, c1, t56, t61, t67, t68, rfl, hBV4, hbb1, hcl1, hAt1⟩ := h
        clear HR19
        have HBBV4 := Aside0.mk hBV4
        have HBV4 : Aside0 (Below w.heap.size w V4) := ⟨HBW.out.trans (hBV4.mono HBW.out.size)⟩
        have HCL1 := Aside0.mk hcl1
        have HAT1 := Aside0.mk hAt1
        have hlt1 : bb1 < V4.heap.size := World.block_lt_of_cell? _ ⟨bb1, 0, none⟩ (hcl1 0)
        clear hBV4 hcl1 hAt1
        have HN4 : Aside0 (∀ w', Below V4.heap.size V4 w' → ∀ j, w'.cell? ⟨w.heap.size, j, none⟩ = #[Value.int .u8 x.f0, .int .i64 x.f1, .string x.f2, .slice (some ad) x.f3.length c][j]?) := ⟨fun w' h j => HN.out w' (HBBV4.out.trans (h.mono HBBV4.out.size)) j⟩
        gi_wp2
        obtain ⟨R20, HR20⟩ : ∃ R : Act → World → Prop, Aside0 (R = fun a W' => ∃ (bb : Nat) (A' : Option Addr) (c' : Nat) (t69 t72 t78 t79 t80 : Value), a = { tmps := #[nodeV x (some ad) c, .int .u8 u, .pointer (some ⟨w.heap.size, 0, none⟩), undef, .pointer (some ⟨w.heap.size + 1, 0, none⟩), undef, undef, undef, undef, undef, .int .i64 k, .pointer (some ⟨bb1, 0, none⟩), .pointer (some ⟨bb, 0, none⟩), undef, .bool true, .bool false, .agg #[.int .u8 x.f0, .int .i64 x.f1, .string x.f2, .slice (some ad) x.f3.length c], .int .i64 0, .bool false, .bool false, .agg #[.int .u8 x.f0, .int .i64 x.f1, .string x.f2, .slice (some ad) x.f3.length c], .bool true, .bool false, .bool false, .agg #[.int .u8 x.f0, .int .i64 x.f1, .string x.f2, .slice (some ad) x.f3.length c], .func (.func 89) #[] #[.pointer (some ⟨S, 0, none⟩)], undef, undef, undef, undef, undef, undef, undef, undef, undef, undef, undef, undef, undef, undef, undef, undef, undef, undef, undef, undef, .pointer (some ⟨w.heap.size, 3, none⟩), .slice (some ad) x.f3.length c, .int .i64 x.f3.length, .bool false, .int .u8 u, .int .i64 u, .pointer (some ⟨w.heap.size, 3, none⟩), .slice (some ad) x.f3.length c, .int .i64 x.f3.length, .int .i64 k, t56, .pointer (some ⟨w.heap.size, 3, none⟩), .slice (some ad) x.f3.length c, .int .i64 k, .slice (some ad) k c, t61, .pointer (some ⟨w.heap.size, 3, none⟩), .slice (some ad) x.f3.length c, .int .i64 k, .int .i64 (k + 1), .slice (some ad2) (x.f3.length - (k + 1)) (c - (k + 1)), t67, t68, t69, .pointer (some ⟨w.heap.size, 3, none⟩), .slice (some ad) x.f3.length c, t72, .pointer (some ⟨w.heap.size, 3, none⟩), .slice (some ad) x.f3.length c, .int .i64 k, .pointer (some (ad.add (k * 4))), .agg #[.int .u8 z.f0, .int .i64 z.f1, .string z.f2, .slice A3 z.f3.length c3], t78, t79, t80, undef, undef, undef, undef, undef, undef, undef, undef, undef, undef, undef, undef, undef, undef, undef, undef, undef, undef, undef], defers := [{ target := .collected D, args := #[] }] } ∧ Below V4.heap.size V4 W' ∧ V4.heap.size ≤ bb ∧ (∀ j, W'.cell? ⟨bb, j, none⟩ = #[Value.int .u8 47, .int .i64 0, .string ⟨#[]⟩, .slice A' (x.f3 ++ [z]).length c'][j]?) ∧ At W' ⟨47, 0, ⟨#[]⟩, x.f3 ++ [z]⟩ A' c') := ⟨_, ⟨rfl⟩⟩
        refine wpIn_wide.2 ?_
        refine region_held_cut R20 (fun w' => Below V4.heap.size V4 w') (by kernel_rfl) (Below.refl _ V4).drew ?next (fun hHeld => ?walk)
        case walk =>
          have B0 := hHeld
          refine held_take 1 (v := _) rfl (by kernel_rfl) (by kernel_rfl) (by kernel_rfl) (by rfl) (by assumption) (fun w' hSw => by
            skip
            go_simp
            try with_reducible rfl) ?_
          try simp only [Act.put, List.setIfInBounds_toArray, List.set_cons_zero, List.set_cons_succ]
          refine held_take 2 (v := _) rfl (by kernel_rfl) (by kernel_rfl) (by kernel_rfl) (by rfl) (by assumption) (fun w' hSw => by
            have hn3 := HN4.out w' hSw 3
            simp at hn3
            go_simp
            try with_reducible rfl) ?_
          try simp only [Act.put, List.setIfInBounds_toArray, List.set_cons_zero, List.set_cons_succ]
          refine held_take 4 (v := _) rfl (by kernel_rfl) (by kernel_rfl) (by kernel_rfl) (by rfl) (by assumption) (fun w' hSw => by
            skip
            go_simp
            try with_reducible rfl) ?_
          try simp only [Act.put, List.setIfInBounds_toArray, List.set_cons_zero, List.set_cons_succ]
          refine held_take 5 (v := _) rfl (by kernel_rfl) (by kernel_rfl) (by kernel_rfl) (by rfl) (by assumption) (fun w' hSw => by
            have hn3 := HN4.out w' hSw 3
            simp at hn3
            go_simp
            try with_reducible rfl) ?_
          try simp only [Act.put, List.setIfInBounds_toArray, List.set_cons_zero, List.set_cons_succ]
          refine held_take 6 (v := _) rfl (by kernel_rfl) (by kernel_rfl) (by kernel_rfl) (by rfl) (by assumption) (fun w' hSw => by
            skip
            go_simp
            try with_reducible rfl) ?_
          try simp only [Act.put, List.setIfInBounds_toArray, List.set_cons_zero, List.set_cons_succ]
          refine held_take 7 (v := _) rfl (by kernel_rfl) (by kernel_rfl) (by kernel_rfl) (by rfl) (by assumption) (fun w' hSw => by
            skip
            go_simp
            try with_reducible rfl) ?_
          try simp only [Act.put, List.setIfInBounds_toArray, List.set_cons_zero, List.set_cons_succ]
          refine held_take 8 (v := _) rfl (by kernel_rfl) (by kernel_rfl) (by kernel_rfl) (by rfl) (by assumption) (fun w' hSw => by
            obtain ⟨z0, z1, z2, z3⟩ := HZ.out w' (HBV4.out.trans (hSw.mono HBV4.out.size))
            go_simp
            try with_reducible rfl) ?_
          try simp only [Act.put, List.setIfInBounds_toArray, List.set_cons_zero, List.set_cons_succ]
          refine wpAnyH_ready (rs := [0, 9, 12]) (by kernel_rfl) (by simp) ?_
          refine held_cons rfl (by rfl) (fun K hK => ?_) ?_
          · unfold Oper.wp
            go_simp
            refine hK.out _ _ (hHeld.alloc hHeld.size _) (fun hHeld => ?_)
            clear hK K
            try simp only [Act.put, List.setIfInBounds_toArray, List.set_cons_zero, List.set_cons_succ]
            refine held_world (fun W' => Below V4.heap.size V4 W' ∧ W'.ownsRow V4.heap.size 24 4 (.slice (some ⟨V4.heap.size, 0, none⟩) 0 0) (0) ([])) ⟨hHeld, World.ownsRow_made _ #[] 0 B0.size (Nat.zero_le _) rfl⟩ (fun w20_1 hf => ?_)
            obtain ⟨B1, G1⟩ := hf
            clear hHeld
            have hHeld := B1
            refine wpAnyH_ready (rs := [3, 9, 12]) (by kernel_rfl) (by simp) ?_
            refine held_cons rfl (by rfl) (fun K hK => ?_) ?_
            · refine wp_append_at (.tmp 69) (.tmp 71) 22 rfl V4.heap.size 24 (.agg #[.int .u8 0, .int .i64 0, .string ⟨#[]⟩, .slice none 0 0]) 4 56 Tryd.underlying22 info24 rfl (by decide) _ _ _ ([]) rfl G1 _ (x.f3.length) _ (cs.flatten) rfl (NL3.out) ((NW3.out _ ((HBV4.out.trans (B1.mono HBV4.out.size))))) (NO3.out) (x.f3.length) (by first | rfl | exact Nat.zero_add _) (cs.flatten) (by first | rfl | exact List.nil_append _) (by omega) (by decide) B1.size ?_
              intro A20_1 c20_1 w20_2 G2 hg hat
              have B2 : Below V4.heap.size V4 w20_2 := B1.grown hg B1.size (fun q e => (World.ownsRow.lt G1 q e).1)
              clear hg hat
              refine hK.out _ _ B2 (fun hHeld => ?_)
              clear hK K
              try simp only [Act.put, List.setIfInBounds_toArray, List.set_cons_zero, List.set_cons_succ]
              refine wpAnyH_ready (rs := [9, 12]) (by kernel_rfl) (by simp) ?_
              refine held_cons rfl (by rfl) (fun K hK => ?_) ?_
              · unfold Oper.wp
                go_simp
                refine hK.out _ _ (hHeld.alloc hHeld.size _) (fun hHeld => ?_)
                clear hK K
                try simp only [Act.put, List.setIfInBounds_toArray, List.set_cons_zero, List.set_cons_succ]
                refine held_world (fun W' => Below V4.heap.size V4 W' ∧ W'.heap[w20_2.heap.size]? = some (.cells #[.int .u8 z.f0, .int .i64 z.f1, .string z.f2, .slice A3 z.f3.length c3] 24) ∧ W'.ownsRow V4.heap.size 24 4 (.slice A20_1 (x.f3.length) c20_1) (x.f3.length) (cs.flatten) ∧ (.slice A20_1 (x.f3.length) c20_1 : Value).ownBlock ≠ some (w20_2.heap.size)) ⟨hHeld, World.alloc_heap_new _ _, World.ownsRow.alloc G2 _, own_ne G2⟩ (fun w20_3 hf => ?_)
                obtain ⟨B3, O3, G3, N13⟩ := hf
                clear hHeld
                have hHeld := B3
                refine wpAnyH_ready (rs := [10, 12]) (by kernel_rfl) (by simp) ?_
                refine held_cons rfl (by rfl) (fun K hK => ?_) ?_
                · refine wp_append_at (.tmp 72) (.tmp 78) 22 rfl V4.heap.size 24 (.agg #[.int .u8 0, .int .i64 0, .string ⟨#[]⟩, .slice none 0 0]) 4 56 Tryd.underlying22 info24 rfl (by decide) _ _ _ (cs.flatten) rfl G3 _ (1) _ ([Value.int .u8 z.f0, .int .i64 z.f1, .string z.f2, .slice A3 z.f3.length c3]) rfl (rfl) ((World.news_of_block O3)) ((by intro u' hu'; simp at hu'; rcases hu' with rfl | rfl | rfl | rfl <;> rfl)) (x.f3.length + (1)) (by first | rfl | exact Nat.zero_add _) (cs.flatten ++ [Value.int .u8 z.f0, .int .i64 z.f1, .string z.f2, .slice A3 z.f3.length c3]) (by first | rfl | exact List.nil_append _) (by omega) (by decide) B3.size ?_
                  intro A20_3 c20_3 w20_4 G4 hg hat
                  have B4 : Below V4.heap.size V4 w20_4 := B3.grown hg B3.size (fun q e => (World.ownsRow.lt G3 q e).1)
                  have O4 := heap_keep hg O3 N13
                  have N14 := at_ne hat N13 (heap_lt O3)
                  clear hg hat
                  refine hK.out _ _ B4 (fun hHeld => ?_)
                  clear hK K
                  try simp only [Act.put, List.setIfInBounds_toArray, List.set_cons_zero, List.set_cons_succ]
                  refine held_take 11 (v := _) rfl (by kernel_rfl) (by kernel_rfl) (by kernel_rfl) (by rfl) (by assumption) (fun w' hSw => by
                    skip
                    go_simp
                    try with_reducible rfl) ?_
                  try simp only [Act.put, List.setIfInBounds_toArray, List.set_cons_zero, List.set_cons_succ]
                  refine wpAnyH_ready (rs := [12]) (by kernel_rfl) (by simp) ?_
                  refine held_cons rfl (by rfl) (fun K hK => ?_) ?_
                  · unfold Oper.wp
                    go_simp
                    refine hK.out _ _ (hHeld.alloc hHeld.size _) (fun hHeld => ?_)
                    clear hK K
                    try simp only [Act.put, List.setIfInBounds_toArray, List.set_cons_zero, List.set_cons_succ]
                    have BX := B4.size
                    refine held_world (fun W' => Below V4.heap.size V4 W' ∧ W'.heap[w20_4.heap.size]? = some (.cells #[.int .u8 0, .int .i64 0, .string ⟨#[]⟩, .slice none 0 0] 24) ∧ W'.heap[w20_2.heap.size]? = some (.cells #[.int .u8 z.f0, .int .i64 z.f1, .string z.f2, .slice A3 z.f3.length c3] 24) ∧ W'.ownsRow V4.heap.size 24 4 (.slice A20_3 (x.f3.length + (1)) c20_3) (x.f3.length + (1)) (cs.flatten ++ [Value.int .u8 z.f0, .int .i64 z.f1, .string z.f2, .slice A3 z.f3.length c3]) ∧ (.slice A20_3 (x.f3.length + (1)) c20_3 : Value).ownBlock ≠ some (w20_4.heap.size) ∧ (.slice A20_3 (x.f3.length + (1)) c20_3 : Value).ownBlock ≠ some (w20_2.heap.size)) ⟨hHeld, World.alloc_heap_new _ _, heap_alloc O4, World.ownsRow.alloc G4 _, own_ne G4, N14⟩ (fun w20_5 hf => ?_)
                    obtain ⟨B5, X5, O5, G5, NX5, N15⟩ := hf
                    clear hHeld
                    have hHeld := B5
                    refine wpAnyH_ready (rs := [13]) (by kernel_rfl) (by simp) ?_
                    refine held_cons rfl (by rfl) (fun K hK => ?_) ?_
                    · unfold Oper.wp
                      have hz := heap_cells X5
                      have hzf := heap_frozen X5
                      go_simp
                      refine hK.out _ _ (B5.trans (set4_below (w20_4.heap.size) (by first | exact Nat.le_refl _ | exact BX) _ _ _ _)) (fun hHeld => ?_)
                      clear hK K
                      try simp only [Act.put, List.setIfInBounds_toArray, List.set_cons_zero, List.set_cons_succ]
                      refine wpAnyH_done (by kernel_rfl) ?_ _
                      show R20 _ _
                      rw [HR20.out]
                      have eL : x.f3.length + (1) = (x.f3 ++ [z]).length := by simp; try omega
                      have eF : cs.flatten ++ [Value.int .u8 z.f0, .int .i64 z.f1, .string z.f2, .slice A3 z.f3.length c3] = (cs ++ [[Value.int .u8 z.f0, .int .i64 z.f1, .string z.f2, .slice A3 z.f3.length c3]]).flatten := by simp
                      have hB4 : Below V4.heap.size V4 (put4 w20_5 (w20_4.heap.size) (.int .u8 47) (.int .i64 0) (.string ⟨#[]⟩) (.slice A20_3 (x.f3.length + (1)) c20_3)) := B5.trans (set4_below (w20_4.heap.size) (by first | exact Nat.le_refl _ | exact BX) _ _ _ _)
                      have hG4 : (put4 w20_5 (w20_4.heap.size) (.int .u8 47) (.int .i64 0) (.string ⟨#[]⟩) (.slice A20_3 (x.f3.length + (1)) c20_3)).ownsRow V4.heap.size 24 4 (.slice A20_3 (x.f3.length + (1)) c20_3) (x.f3.length + (1)) (cs.flatten ++ [Value.int .u8 z.f0, .int .i64 z.f1, .string z.f2, .slice A3 z.f3.length c3]) := own_keep G5 (fun g e => put4_far _ _ _ (fun h => NX5 (by rw [e, h])) _ _ _ _)
                      rw [eF] at hG4
                      have hAt : At (put4 w20_5 (w20_4.heap.size) (.int .u8 47) (.int .i64 0) (.string ⟨#[]⟩) (.slice A20_3 (x.f3.length + (1)) c20_3)) ⟨47, 0, ⟨#[]⟩, x.f3 ++ [z]⟩ _ _ := row_tree hG4 ((fun h => (HRW.out.below ((HBV4.out.trans (h.mono HBV4.out.size)))).append (RowOf.single (HAZ.out.below ((HBV4.out.trans (h.mono HBV4.out.size)))))) hB4) eL (by omega) 47 0 ⟨#[]⟩
                      have hcl : ∀ j, (put4 w20_5 (w20_4.heap.size) (.int .u8 47) (.int .i64 0) (.string ⟨#[]⟩) (.slice A20_3 (x.f3.length + (1)) c20_3)).cell? ⟨w20_4.heap.size, j, none⟩ = #[Value.int .u8 47, .int .i64 0, .string ⟨#[]⟩, .slice A20_3 (x.f3 ++ [z]).length c20_3][j]? := fun j => by rw [← eL]; exact set4 _ _ hz _ _ _ _ j
                      unfold put4 at hcl hAt
                      exact ⟨w20_4.heap.size, _, _, _, _, _, _, _, rfl, hHeld, (by first | exact Nat.le_refl _ | exact BX), hcl, hAt⟩
                    exact AllReadyH.nil
                  exact AllReadyH.nil
                refine held_cons rfl (by rfl) (fun K hK => ?_) ?_
                · unfold Oper.wp
                  go_simp
                  refine hK.out _ _ (hHeld.alloc hHeld.size _) (fun hHeld => ?_)
                  clear hK K
                  try simp only [Act.put, List.setIfInBounds_toArray, List.set_cons_zero, List.set_cons_succ]
                  have BX := B3.size
                  refine held_world (fun W' => Below V4.heap.size V4 W' ∧ W'.heap[w20_3.heap.size]? = some (.cells #[.int .u8 0, .int .i64 0, .string ⟨#[]⟩, .slice none 0 0] 24) ∧ W'.heap[w20_2.heap.size]? = some (.cells #[.int .u8 z.f0, .int .i64 z.f1, .string z.f2, .slice A3 z.f3.length c3] 24) ∧ W'.ownsRow V4.heap.size 24 4 (.slice A20_1 (x.f3.length) c20_1) (x.f3.length) (cs.flatten) ∧ (.slice A20_1 (x.f3.length) c20_1 : Value).ownBlock ≠ some (w20_3.heap.size) ∧ (.slice A20_1 (x.f3.length) c20_1 : Value).ownBlock ≠ some (w20_2.heap.size)) ⟨hHeld, World.alloc_heap_new _ _, heap_alloc O3, World.ownsRow.alloc G3 _, own_ne G3, N13⟩ (fun w20_4 hf => ?_)
                  obtain ⟨B4, X4, O4, G4, NX4, N14⟩ := hf
                  clear hHeld
                  have hHeld := B4
                  refine wpAnyH_ready (rs := [10]) (by kernel_rfl) (by simp) ?_
                  refine held_cons rfl (by rfl) (fun K hK => ?_) ?_
                  · refine wp_append_at (.tmp 72) (.tmp 78) 22 rfl V4.heap.size 24 (.agg #[.int .u8 0, .int .i64 0, .string ⟨#[]⟩, .slice none 0 0]) 4 56 Tryd.underlying22 info24 rfl (by decide) _ _ _ (cs.flatten) rfl G4 _ (1) _ ([Value.int .u8 z.f0, .int .i64 z.f1, .string z.f2, .slice A3 z.f3.length c3]) rfl (rfl) ((World.news_of_block O4)) ((by intro u' hu'; simp at hu'; rcases hu' with rfl | rfl | rfl | rfl <;> rfl)) (x.f3.length + (1)) (by first | rfl | exact Nat.zero_add _) (cs.flatten ++ [Value.int .u8 z.f0, .int .i64 z.f1, .string z.f2, .slice A3 z.f3.length c3]) (by first | rfl | exact List.nil_append _) (by omega) (by decide) B4.size ?_
                    intro A20_4 c20_4 w20_5 G5 hg hat
                    have B5 : Below V4.heap.size V4 w20_5 := B4.grown hg B4.size (fun q e => (World.ownsRow.lt G4 q e).1)
                    have X5 := heap_keep hg X4 NX4
                    have NX5 := at_ne hat NX4 (heap_lt X4)
                    have O5 := heap_keep hg O4 N14
                    have N15 := at_ne hat N14 (heap_lt O4)
                    clear hg hat
                    refine hK.out _ _ B5 (fun hHeld => ?_)
                    clear hK K
                    try simp only [Act.put, List.setIfInBounds_toArray, List.set_cons_zero, List.set_cons_succ]
                    refine held_take 11 (v := _) rfl (by kernel_rfl) (by kernel_rfl) (by kernel_rfl) (by rfl) (by assumption) (fun w' hSw => by
                      skip
                      go_simp
                      try with_reducible rfl) ?_
                    try simp only [Act.put, List.setIfInBounds_toArray, List.set_cons_zero, List.set_cons_succ]
                    refine wpAnyH_ready (rs := [13]) (by kernel_rfl) (by simp) ?_
                    refine held_cons rfl (by rfl) (fun K hK => ?_) ?_
                    · unfold Oper.wp
                      have hz := heap_cells X5
                      have hzf := heap_frozen X5
                      go_simp
                      refine hK.out _ _ (B5.trans (set4_below (w20_3.heap.size) (by first | exact Nat.le_refl _ | exact BX) _ _ _ _)) (fun hHeld => ?_)
                      clear hK K
                      try simp only [Act.put, List.setIfInBounds_toArray, List.set_cons_zero, List.set_cons_succ]
                      refine wpAnyH_done (by kernel_rfl) ?_ _
                      show R20 _ _
                      rw [HR20.out]
                      have eL : x.f3.length + (1) = (x.f3 ++ [z]).length := by simp; try omega
                      have eF : cs.flatten ++ [Value.int .u8 z.f0, .int .i64 z.f1, .string z.f2, .slice A3 z.f3.length c3] = (cs ++ [[Value.int .u8 z.f0, .int .i64 z.f1, .string z.f2, .slice A3 z.f3.length c3]]).flatten := by simp
                      have hB4 : Below V4.heap.size V4 (put4 w20_5 (w20_3.heap.size) (.int .u8 47) (.int .i64 0) (.string ⟨#[]⟩) (.slice A20_4 (x.f3.length + (1)) c20_4)) := B5.trans (set4_below (w20_3.heap.size) (by first | exact Nat.le_refl _ | exact BX) _ _ _ _)
                      have hG4 : (put4 w20_5 (w20_3.heap.size) (.int .u8 47) (.int .i64 0) (.string ⟨#[]⟩) (.slice A20_4 (x.f3.length + (1)) c20_4)).ownsRow V4.heap.size 24 4 (.slice A20_4 (x.f3.length + (1)) c20_4) (x.f3.length + (1)) (cs.flatten ++ [Value.int .u8 z.f0, .int .i64 z.f1, .string z.f2, .slice A3 z.f3.length c3]) := own_keep G5 (fun g e => put4_far _ _ _ (fun h => NX5 (by rw [e, h])) _ _ _ _)
                      rw [eF] at hG4
                      have hAt : At (put4 w20_5 (w20_3.heap.size) (.int .u8 47) (.int .i64 0) (.string ⟨#[]⟩) (.slice A20_4 (x.f3.length + (1)) c20_4)) ⟨47, 0, ⟨#[]⟩, x.f3 ++ [z]⟩ _ _ := row_tree hG4 ((fun h => (HRW.out.below ((HBV4.out.trans (h.mono HBV4.out.size)))).append (RowOf.single (HAZ.out.below ((HBV4.out.trans (h.mono HBV4.out.size)))))) hB4) eL (by omega) 47 0 ⟨#[]⟩
                      have hcl : ∀ j, (put4 w20_5 (w20_3.heap.size) (.int .u8 47) (.int .i64 0) (.string ⟨#[]⟩) (.slice A20_4 (x.f3.length + (1)) c20_4)).cell? ⟨w20_3.heap.size, j, none⟩ = #[Value.int .u8 47, .int .i64 0, .string ⟨#[]⟩, .slice A20_4 (x.f3 ++ [z]).length c20_4][j]? := fun j => by rw [← eL]; exact set4 _ _ hz _ _ _ _ j
                      unfold put4 at hcl hAt
                      exact ⟨w20_3.heap.size, _, _, _, _, _, _, _, rfl, hHeld, (by first | exact Nat.le_refl _ | exact BX), hcl, hAt⟩
                    exact AllReadyH.nil
                  exact AllReadyH.nil
                exact AllReadyH.nil
              refine held_cons rfl (by rfl) (fun K hK => ?_) ?_
              · unfold Oper.wp
                go_simp
                refine hK.out _ _ (hHeld.alloc hHeld.size _) (fun hHeld => ?_)
                clear hK K
                try simp only [Act.put, List.setIfInBounds_toArray, List.set_cons_zero, List.set_cons_succ]
                have BX := B2.size
                refine held_world (fun W' => Below V4.heap.size V4 W' ∧ W'.heap[w20_2.heap.size]? = some (.cells #[.int .u8 0, .int .i64 0, .string ⟨#[]⟩, .slice none 0 0] 24) ∧ W'.ownsRow V4.heap.size 24 4 (.slice A20_1 (x.f3.length) c20_1) (x.f3.length) (cs.flatten) ∧ (.slice A20_1 (x.f3.length) c20_1 : Value).ownBlock ≠ some (w20_2.heap.size)) ⟨hHeld, World.alloc_heap_new _ _, World.ownsRow.alloc G2 _, own_ne G2⟩ (fun w20_3 hf => ?_)
                obtain ⟨B3, X3, G3, NX3⟩ := hf
                clear hHeld
                have hHeld := B3
                refine wpAnyH_ready (rs := [9]) (by kernel_rfl) (by simp) ?_
                refine held_cons rfl (by rfl) (fun K hK => ?_) ?_
                · unfold Oper.wp
                  go_simp
                  refine hK.out _ _ (hHeld.alloc hHeld.size _) (fun hHeld => ?_)
                  clear hK K
                  try simp only [Act.put, List.setIfInBounds_toArray, List.set_cons_zero, List.set_cons_succ]
                  refine held_world (fun W' => Below V4.heap.size V4 W' ∧ W'.heap[w20_2.heap.size]? = some (.cells #[.int .u8 0, .int .i64 0, .string ⟨#[]⟩, .slice none 0 0] 24) ∧ W'.heap[w20_3.heap.size]? = some (.cells #[.int .u8 z.f0, .int .i64 z.f1, .string z.f2, .slice A3 z.f3.length c3] 24) ∧ W'.ownsRow V4.heap.size 24 4 (.slice A20_1 (x.f3.length) c20_1) (x.f3.length) (cs.flatten) ∧ (.slice A20_1 (x.f3.length) c20_1 : Value).ownBlock ≠ some (w20_2.heap.size) ∧ (.slice A20_1 (x.f3.length) c20_1 : Value).ownBlock ≠ some (w20_3.heap.size)) ⟨hHeld, heap_alloc X3, World.alloc_heap_new _ _, World.ownsRow.alloc G3 _, NX3, own_ne G3⟩ (fun w20_4 hf => ?_)
                  obtain ⟨B4, X4, O4, G4, NX4, N14⟩ := hf
                  clear hHeld
                  have hHeld := B4
                  refine wpAnyH_ready (rs := [10]) (by kernel_rfl) (by simp) ?_
                  refine held_cons rfl (by rfl) (fun K hK => ?_) ?_
                  · refine wp_append_at (.tmp 72) (.tmp 78) 22 rfl V4.heap.size 24 (.agg #[.int .u8 0, .int .i64 0, .string ⟨#[]⟩, .slice none 0 0]) 4 56 Tryd.underlying22 info24 rfl (by decide) _ _ _ (cs.flatten) rfl G4 _ (1) _ ([Value.int .u8 z.f0, .int .i64 z.f1, .string z.f2, .slice A3 z.f3.length c3]) rfl (rfl) ((World.news_of_block O4)) ((by intro u' hu'; simp at hu'; rcases hu' with rfl | rfl | rfl | rfl <;> rfl)) (x.f3.length + (1)) (by first | rfl | exact Nat.zero_add _) (cs.flatten ++ [Value.int .u8 z.f0, .int .i64 z.f1, .string z.f2, .slice A3 z.f3.length c3]) (by first | rfl | exact List.nil_append _) (by omega) (by decide) B4.size ?_
                    intro A20_4 c20_4 w20_5 G5 hg hat
                    have B5 : Below V4.heap.size V4 w20_5 := B4.grown hg B4.size (fun q e => (World.ownsRow.lt G4 q e).1)
                    have X5 := heap_keep hg X4 NX4
                    have NX5 := at_ne hat NX4 (heap_lt X4)
                    have O5 := heap_keep hg O4 N14
                    have N15 := at_ne hat N14 (heap_lt O4)
                    clear hg hat
                    refine hK.out _ _ B5 (fun hHeld => ?_)
                    clear hK K
                    try simp only [Act.put, List.setIfInBounds_toArray, List.set_cons_zero, List.set_cons_succ]
                    refine held_take 11 (v := _) rfl (by kernel_rfl) (by kernel_rfl) (by kernel_rfl) (by rfl) (by assumption) (fun w' hSw => by
                      skip
                      go_simp
                      try with_reducible rfl) ?_
                    try simp only [Act.put, List.setIfInBounds_toArray, List.set_cons_zero, List.set_cons_succ]
                    refine wpAnyH_ready (rs := [13]) (by kernel_rfl) (by simp) ?_
                    refine held_cons rfl (by rfl) (fun K hK => ?_) ?_
                    · unfold Oper.wp
                      have hz := heap_cells X5
                      have hzf := heap_frozen X5
                      go_simp
                      refine hK.out _ _ (B5.trans (set4_below (w20_2.heap.size) (by first | exact Nat.le_refl _ | exact BX) _ _ _ _)) (fun hHeld => ?_)
                      clear hK K
                      try simp only [Act.put, List.setIfInBounds_toArray, List.set_cons_zero, List.set_cons_succ]
                      refine wpAnyH_done (by kernel_rfl) ?_ _
                      show R20 _ _
                      rw [HR20.out]
                      have eL : x.f3.length + (1) = (x.f3 ++ [z]).length := by simp; try omega
                      have eF : cs.flatten ++ [Value.int .u8 z.f0, .int .i64 z.f1, .string z.f2, .slice A3 z.f3.length c3] = (cs ++ [[Value.int .u8 z.f0, .int .i64 z.f1, .string z.f2, .slice A3 z.f3.length c3]]).flatten := by simp
                      have hB4 : Below V4.heap.size V4 (put4 w20_5 (w20_2.heap.size) (.int .u8 47) (.int .i64 0) (.string ⟨#[]⟩) (.slice A20_4 (x.f3.length + (1)) c20_4)) := B5.trans (set4_below (w20_2.heap.size) (by first | exact Nat.le_refl _ | exact BX) _ _ _ _)
                      have hG4 : (put4 w20_5 (w20_2.heap.size) (.int .u8 47) (.int .i64 0) (.string ⟨#[]⟩) (.slice A20_4 (x.f3.length + (1)) c20_4)).ownsRow V4.heap.size 24 4 (.slice A20_4 (x.f3.length + (1)) c20_4) (x.f3.length + (1)) (cs.flatten ++ [Value.int .u8 z.f0, .int .i64 z.f1, .string z.f2, .slice A3 z.f3.length c3]) := own_keep G5 (fun g e => put4_far _ _ _ (fun h => NX5 (by rw [e, h])) _ _ _ _)
                      rw [eF] at hG4
                      have hAt : At (put4 w20_5 (w20_2.heap.size) (.int .u8 47) (.int .i64 0) (.string ⟨#[]⟩) (.slice A20_4 (x.f3.length + (1)) c20_4)) ⟨47, 0, ⟨#[]⟩, x.f3 ++ [z]⟩ _ _ := row_tree hG4 ((fun h => (HRW.out.below ((HBV4.out.trans (h.mono HBV4.out.size)))).append (RowOf.single (HAZ.out.below ((HBV4.out.trans (h.mono HBV4.out.size)))))) hB4) eL (by omega) 47 0 ⟨#[]⟩
                      have hcl : ∀ j, (put4 w20_5 (w20_2.heap.size) (.int .u8 47) (.int .i64 0) (.string ⟨#[]⟩) (.slice A20_4 (x.f3.length + (1)) c20_4)).cell? ⟨w20_2.heap.size, j, none⟩ = #[Value.int .u8 47, .int .i64 0, .string ⟨#[]⟩, .slice A20_4 (x.f3 ++ [z]).length c20_4][j]? := fun j => by rw [← eL]; exact set4 _ _ hz _ _ _ _ j
                      unfold put4 at hcl hAt
                      exact ⟨w20_2.heap.size, _, _, _, _, _, _, _, rfl, hHeld, (by first | exact Nat.le_refl _ | exact BX), hcl, hAt⟩
                    exact AllReadyH.nil
                  exact AllReadyH.nil
                exact AllReadyH.nil
              exact AllReadyH.nil
            refine held_cons rfl (by rfl) (fun K hK => ?_) ?_
            · unfold Oper.wp
              go_simp
              refine hK.out _ _ (hHeld.alloc hHeld.size _) (fun hHeld => ?_)
              clear hK K
              try simp only [Act.put, List.setIfInBounds_toArray, List.set_cons_zero, List.set_cons_succ]
              refine held_world (fun W' => Below V4.heap.size V4 W' ∧ W'.heap[w20_1.heap.size]? = some (.cells #[.int .u8 z.f0, .int .i64 z.f1, .string z.f2, .slice A3 z.f3.length c3] 24) ∧ W'.ownsRow V4.heap.size 24 4 (.slice (some ⟨V4.heap.size, 0, none⟩) 0 0) (0) ([]) ∧ (.slice (some ⟨V4.heap.size, 0, none⟩) 0 0 : Value).ownBlock ≠ some (w20_1.heap.size)) ⟨hHeld, World.alloc_heap_new _ _, World.ownsRow.alloc G1 _, own_ne G1⟩ (fun w20_2 hf => ?_)
              obtain ⟨B2, O2, G2, N12⟩ := hf
              clear hHeld
              have hHeld := B2
              refine wpAnyH_ready (rs := [3, 12]) (by kernel_rfl) (by simp) ?_
              refine held_cons rfl (by rfl) (fun K hK => ?_) ?_
              · refine wp_append_at (.tmp 69) (.tmp 71) 22 rfl V4.heap.size 24 (.agg #[.int .u8 0, .int .i64 0, .string ⟨#[]⟩, .slice none 0 0]) 4 56 Tryd.underlying22 info24 rfl (by decide) _ _ _ ([]) rfl G2 _ (x.f3.length) _ (cs.flatten) rfl (NL3.out) ((NW3.out _ ((HBV4.out.trans (B2.mono HBV4.out.size))))) (NO3.out) (x.f3.length) (by first | rfl | exact Nat.zero_add _) (cs.flatten) (by first | rfl | exact List.nil_append _) (by omega) (by decide) B2.size ?_
                intro A20_2 c20_2 w20_3 G3 hg hat
                have B3 : Below V4.heap.size V4 w20_3 := B2.grown hg B2.size (fun q e => (World.ownsRow.lt G2 q e).1)
                have O3 := heap_keep hg O2 N12
                have N13 := at_ne hat N12 (heap_lt O2)
                clear hg hat
                refine hK.out _ _ B3 (fun hHeld => ?_)
                clear hK K
                try simp only [Act.put, List.setIfInBounds_toArray, List.set_cons_zero, List.set_cons_succ]
                refine wpAnyH_ready (rs := [10, 12]) (by kernel_rfl) (by simp) ?_
                refine held_cons rfl (by rfl) (fun K hK => ?_) ?_
                · refine wp_append_at (.tmp 72) (.tmp 78) 22 rfl V4.heap.size 24 (.agg #[.int .u8 0, .int .i64 0, .string ⟨#[]⟩, .slice none 0 0]) 4 56 Tryd.underlying22 info24 rfl (by decide) _ _ _ (cs.flatten) rfl G3 _ (1) _ ([Value.int .u8 z.f0, .int .i64 z.f1, .string z.f2, .slice A3 z.f3.length c3]) rfl (rfl) ((World.news_of_block O3)) ((by intro u' hu'; simp at hu'; rcases hu' with rfl | rfl | rfl | rfl <;> rfl)) (x.f3.length + (1)) (by first | rfl | exact Nat.zero_add _) (cs.flatten ++ [Value.int .u8 z.f0, .int .i64 z.f1, .string z.f2, .slice A3 z.f3.length c3]) (by first | rfl | exact List.nil_append _) (by omega) (by decide) B3.size ?_
                  intro A20_3 c20_3 w20_4 G4 hg hat
                  have B4 : Below V4.heap.size V4 w20_4 := B3.grown hg B3.size (fun q e => (World.ownsRow.lt G3 q e).1)
                  have O4 := heap_keep hg O3 N13
                  have N14 := at_ne hat N13 (heap_lt O3)
                  clear hg hat
                  refine hK.out _ _ B4 (fun hHeld => ?_)
                  clear hK K
                  try simp only [Act.put, List.setIfInBounds_toArray, List.set_cons_zero, List.set_cons_succ]
                  refine held_take 11 (v := _) rfl (by kernel_rfl) (by kernel_rfl) (by kernel_rfl) (by rfl) (by assumption) (fun w' hSw => by
                    skip
                    go_simp
                    try with_reducible rfl) ?_
                  try simp only [Act.put, List.setIfInBounds_toArray, List.set_cons_zero, List.set_cons_succ]
                  refine wpAnyH_ready (rs := [12]) (by kernel_rfl) (by simp) ?_
                  refine held_cons rfl (by rfl) (fun K hK => ?_) ?_
                  · unfold Oper.wp
                    go_simp
                    refine hK.out _ _ (hHeld.alloc hHeld.size _) (fun hHeld => ?_)
                    clear hK K
                    try simp only [Act.put, List.setIfInBounds_toArray, List.set_cons_zero, List.set_cons_succ]
                    have BX := B4.size
                    refine held_world (fun W' => Below V4.heap.size V4 W' ∧ W'.heap[w20_4.heap.size]? = some (.cells #[.int .u8 0, .int .i64 0, .string ⟨#[]⟩, .slice none 0 0] 24) ∧ W'.heap[w20_1.heap.size]? = some (.cells #[.int .u8 z.f0, .int .i64 z.f1, .string z.f2, .slice A3 z.f3.length c3] 24) ∧ W'.ownsRow V4.heap.size 24 4 (.slice A20_3 (x.f3.length + (1)) c20_3) (x.f3.length + (1)) (cs.flatten ++ [Value.int .u8 z.f0, .int .i64 z.f1, .string z.f2, .slice A3 z.f3.length c3]) ∧ (.slice A20_3 (x.f3.length + (1)) c20_3 : Value).ownBlock ≠ some (w20_4.heap.size) ∧ (.slice A20_3 (x.f3.length + (1)) c20_3 : Value).ownBlock ≠ some (w20_1.heap.size)) ⟨hHeld, World.alloc_heap_new _ _, heap_alloc O4, World.ownsRow.alloc G4 _, own_ne G4, N14⟩ (fun w20_5 hf => ?_)
                    obtain ⟨B5, X5, O5, G5, NX5, N15⟩ := hf
                    clear hHeld
                    have hHeld := B5
                    refine wpAnyH_ready (rs := [13]) (by kernel_rfl) (by simp) ?_
                    refine held_cons rfl (by rfl) (fun K hK => ?_) ?_
                    · unfold Oper.wp
                      have hz := heap_cells X5
                      have hzf := heap_frozen X5
                      go_simp
                      refine hK.out _ _ (B5.trans (set4_below (w20_4.heap.size) (by first | exact Nat.le_refl _ | exact BX) _ _ _ _)) (fun hHeld => ?_)
                      clear hK K
                      try simp only [Act.put, List.setIfInBounds_toArray, List.set_cons_zero, List.set_cons_succ]
                      refine wpAnyH_done (by kernel_rfl) ?_ _
                      show R20 _ _
                      rw [HR20.out]
                      have eL : x.f3.length + (1) = (x.f3 ++ [z]).length := by simp; try omega
                      have eF : cs.flatten ++ [Value.int .u8 z.f0, .int .i64 z.f1, .string z.f2, .slice A3 z.f3.length c3] = (cs ++ [[Value.int .u8 z.f0, .int .i64 z.f1, .string z.f2, .slice A3 z.f3.length c3]]).flatten := by simp
                      have hB4 : Below V4.heap.size V4 (put4 w20_5 (w20_4.heap.size) (.int .u8 47) (.int .i64 0) (.string ⟨#[]⟩) (.slice A20_3 (x.f3.length + (1)) c20_3)) := B5.trans (set4_below (w20_4.heap.size) (by first | exact Nat.le_refl _ | exact BX) _ _ _ _)
                      have hG4 : (put4 w20_5 (w20_4.heap.size) (.int .u8 47) (.int .i64 0) (.string ⟨#[]⟩) (.slice A20_3 (x.f3.length + (1)) c20_3)).ownsRow V4.heap.size 24 4 (.slice A20_3 (x.f3.length + (1)) c20_3) (x.f3.length + (1)) (cs.flatten ++ [Value.int .u8 z.f0, .int .i64 z.f1, .string z.f2, .slice A3 z.f3.length c3]) := own_keep G5 (fun g e => put4_far _ _ _ (fun h => NX5 (by rw [e, h])) _ _ _ _)
                      rw [eF] at hG4
                      have hAt : At (put4 w20_5 (w20_4.heap.size) (.int .u8 47) (.int .i64 0) (.string ⟨#[]⟩) (.slice A20_3 (x.f3.length + (1)) c20_3)) ⟨47, 0, ⟨#[]⟩, x.f3 ++ [z]⟩ _ _ := row_tree hG4 ((fun h => (HRW.out.below ((HBV4.out.trans (h.mono HBV4.out.size)))).append (RowOf.single (HAZ.out.below ((HBV4.out.trans (h.mono HBV4.out.size)))))) hB4) eL (by omega) 47 0 ⟨#[]⟩
                      have hcl : ∀ j, (put4 w20_5 (w20_4.heap.size) (.int .u8 47) (.int .i64 0) (.string ⟨#[]⟩) (.slice A20_3 (x.f3.length + (1)) c20_3)).cell? ⟨w20_4.heap.size, j, none⟩ = #[Value.int .u8 47, .int .i64 0, .string ⟨#[]⟩, .slice A20_3 (x.f3 ++ [z]).length c20_3][j]? := fun j => by rw [← eL]; exact set4 _ _ hz _ _ _ _ j
                      unfold put4 at hcl hAt
                      exact ⟨w20_4.heap.size, _, _, _, _, _, _, _, rfl, hHeld, (by first | exact Nat.le_refl _ | exact BX), hcl, hAt⟩
                    exact AllReadyH.nil
                  exact AllReadyH.nil
                refine held_cons rfl (by rfl) (fun K hK => ?_) ?_
                · unfold Oper.wp
                  go_simp
                  refine hK.out _ _ (hHeld.alloc hHeld.size _) (fun hHeld => ?_)
                  clear hK K
                  try simp only [Act.put, List.setIfInBounds_toArray, List.set_cons_zero, List.set_cons_succ]
                  have BX := B3.size
                  refine held_world (fun W' => Below V4.heap.size V4 W' ∧ W'.heap[w20_3.heap.size]? = some (.cells #[.int .u8 0, .int .i64 0, .string ⟨#[]⟩, .slice none 0 0] 24) ∧ W'.heap[w20_1.heap.size]? = some (.cells #[.int .u8 z.f0, .int .i64 z.f1, .string z.f2, .slice A3 z.f3.length c3] 24) ∧ W'.ownsRow V4.heap.size 24 4 (.slice A20_2 (x.f3.length) c20_2) (x.f3.length) (cs.flatten) ∧ (.slice A20_2 (x.f3.length) c20_2 : Value).ownBlock ≠ some (w20_3.heap.size) ∧ (.slice A20_2 (x.f3.length) c20_2 : Value).ownBlock ≠ some (w20_1.heap.size)) ⟨hHeld, World.alloc_heap_new _ _, heap_alloc O3, World.ownsRow.alloc G3 _, own_ne G3, N13⟩ (fun w20_4 hf => ?_)
                  obtain ⟨B4, X4, O4, G4, NX4, N14⟩ := hf
                  clear hHeld
                  have hHeld := B4
                  refine wpAnyH_ready (rs := [10]) (by kernel_rfl) (by simp) ?_
                  refine held_cons rfl (by rfl) (fun K hK => ?_) ?_
                  · refine wp_append_at (.tmp 72) (.tmp 78) 22 rfl V4.heap.size 24 (.agg #[.int .u8 0, .int .i64 0, .string ⟨#[]⟩, .slice none 0 0]) 4 56 Tryd.underlying22 info24 rfl (by decide) _ _ _ (cs.flatten) rfl G4 _ (1) _ ([Value.int .u8 z.f0, .int .i64 z.f1, .string z.f2, .slice A3 z.f3.length c3]) rfl (rfl) ((World.news_of_block O4)) ((by intro u' hu'; simp at hu'; rcases hu' with rfl | rfl | rfl | rfl <;> rfl)) (x.f3.length + (1)) (by first | rfl | exact Nat.zero_add _) (cs.flatten ++ [Value.int .u8 z.f0, .int .i64 z.f1, .string z.f2, .slice A3 z.f3.length c3]) (by first | rfl | exact List.nil_append _) (by omega) (by decide) B4.size ?_
                    intro A20_4 c20_4 w20_5 G5 hg hat
                    have B5 : Below V4.heap.size V4 w20_5 := B4.grown hg B4.size (fun q e => (World.ownsRow.lt G4 q e).1)
                    have X5 := heap_keep hg X4 NX4
                    have NX5 := at_ne hat NX4 (heap_lt X4)
                    have O5 := heap_keep hg O4 N14
                    have N15 := at_ne hat N14 (heap_lt O4)
                    clear hg hat
                    refine hK.out _ _ B5 (fun hHeld => ?_)
                    clear hK K
                    try simp only [Act.put, List.setIfInBounds_toArray, List.set_cons_zero, List.set_cons_succ]
                    refine held_take 11 (v := _) rfl (by kernel_rfl) (by kernel_rfl) (by kernel_rfl) (by rfl) (by assumption) (fun w' hSw => by
                      skip
                      go_simp
                      try with_reducible rfl) ?_
                    try simp only [Act.put, List.setIfInBounds_toArray, List.set_cons_zero, List.set_cons_succ]
                    refine wpAnyH_ready (rs := [13]) (by kernel_rfl) (by simp) ?_
                    refine held_cons rfl (by rfl) (fun K hK => ?_) ?_
                    · unfold Oper.wp
                      have hz := heap_cells X5
                      have hzf := heap_frozen X5
                      go_simp
                      refine hK.out _ _ (B5.trans (set4_below (w20_3.heap.size) (by first | exact Nat.le_refl _ | exact BX) _ _ _ _)) (fun hHeld => ?_)
                      clear hK K
                      try simp only [Act.put, List.setIfInBounds_toArray, List.set_cons_zero, List.set_cons_succ]
                      refine wpAnyH_done (by kernel_rfl) ?_ _
                      show R20 _ _
                      rw [HR20.out]
                      have eL : x.f3.length + (1) = (x.f3 ++ [z]).length := by simp; try omega
                      have eF : cs.flatten ++ [Value.int .u8 z.f0, .int .i64 z.f1, .string z.f2, .slice A3 z.f3.length c3] = (cs ++ [[Value.int .u8 z.f0, .int .i64 z.f1, .string z.f2, .slice A3 z.f3.length c3]]).flatten := by simp
                      have hB4 : Below V4.heap.size V4 (put4 w20_5 (w20_3.heap.size) (.int .u8 47) (.int .i64 0) (.string ⟨#[]⟩) (.slice A20_4 (x.f3.length + (1)) c20_4)) := B5.trans (set4_below (w20_3.heap.size) (by first | exact Nat.le_refl _ | exact BX) _ _ _ _)
                      have hG4 : (put4 w20_5 (w20_3.heap.size) (.int .u8 47) (.int .i64 0) (.string ⟨#[]⟩) (.slice A20_4 (x.f3.length + (1)) c20_4)).ownsRow V4.heap.size 24 4 (.slice A20_4 (x.f3.length + (1)) c20_4) (x.f3.length + (1)) (cs.flatten ++ [Value.int .u8 z.f0, .int .i64 z.f1, .string z.f2, .slice A3 z.f3.length c3]) := own_keep G5 (fun g e => put4_far _ _ _ (fun h => NX5 (by rw [e, h])) _ _ _ _)
                      rw [eF] at hG4
                      have hAt : At (put4 w20_5 (w20_3.heap.size) (.int .u8 47) (.int .i64 0) (.string ⟨#[]⟩) (.slice A20_4 (x.f3.length + (1)) c20_4)) ⟨47, 0, ⟨#[]⟩, x.f3 ++ [z]⟩ _ _ := row_tree hG4 ((fun h => (HRW.out.below ((HBV4.out.trans (h.mono HBV4.out.size)))).append (RowOf.single (HAZ.out.below ((HBV4.out.trans (h.mono HBV4.out.size)))))) hB4) eL (by omega) 47 0 ⟨#[]⟩
                      have hcl : ∀ j, (put4 w20_5 (w20_3.heap.size) (.int .u8 47) (.int .i64 0) (.string ⟨#[]⟩) (.slice A20_4 (x.f3.length + (1)) c20_4)).cell? ⟨w20_3.heap.size, j, none⟩ = #[Value.int .u8 47, .int .i64 0, .string ⟨#[]⟩, .slice A20_4 (x.f3 ++ [z]).length c20_4][j]? := fun j => by rw [← eL]; exact set4 _ _ hz _ _ _ _ j
                      unfold put4 at hcl hAt
                      exact ⟨w20_3.heap.size, _, _, _, _, _, _, _, rfl, hHeld, (by first | exact Nat.le_refl _ | exact BX), hcl, hAt⟩
                    exact AllReadyH.nil
                  exact AllReadyH.nil
                exact AllReadyH.nil
              refine held_cons rfl (by rfl) (fun K hK => ?_) ?_
              · unfold Oper.wp
                go_simp
                refine hK.out _ _ (hHeld.alloc hHeld.size _) (fun hHeld => ?_)
                clear hK K
                try simp only [Act.put, List.setIfInBounds_toArray, List.set_cons_zero, List.set_cons_succ]
                have BX := B2.size
                refine held_world (fun W' => Below V4.heap.size V4 W' ∧ W'.heap[w20_2.heap.size]? = some (.cells #[.int .u8 0, .int .i64 0, .string ⟨#[]⟩, .slice none 0 0] 24) ∧ W'.heap[w20_1.heap.size]? = some (.cells #[.int .u8 z.f0, .int .i64 z.f1, .string z.f2, .slice A3 z.f3.length c3] 24) ∧ W'.ownsRow V4.heap.size 24 4 (.slice (some ⟨V4.heap.size, 0, none⟩) 0 0) (0) ([]) ∧ (.slice (some ⟨V4.heap.size, 0, none⟩) 0 0 : Value).ownBlock ≠ some (w20_2.heap.size) ∧ (.slice (some ⟨V4.heap.size, 0, none⟩) 0 0 : Value).ownBlock ≠ some (w20_1.heap.size)) ⟨hHeld, World.alloc_heap_new _ _, heap_alloc O2, World.ownsRow.alloc G2 _, own_ne G2, N12⟩ (fun w20_3 hf => ?_)
                obtain ⟨B3, X3, O3, G3, NX3, N13⟩ := hf
                clear hHeld
                have hHeld := B3
                refine wpAnyH_ready (rs := [3]) (by kernel_rfl) (by simp) ?_
                refine held_cons rfl (by rfl) (fun K hK => ?_) ?_
                · refine wp_append_at (.tmp 69) (.tmp 71) 22 rfl V4.heap.size 24 (.agg #[.int .u8 0, .int .i64 0, .string ⟨#[]⟩, .slice none 0 0]) 4 56 Tryd.underlying22 info24 rfl (by decide) _ _ _ ([]) rfl G3 _ (x.f3.length) _ (cs.flatten) rfl (NL3.out) ((NW3.out _ ((HBV4.out.trans (B3.mono HBV4.out.size))))) (NO3.out) (x.f3.length) (by first | rfl | exact Nat.zero_add _) (cs.flatten) (by first | rfl | exact List.nil_append _) (by omega) (by decide) B3.size ?_
                  intro A20_3 c20_3 w20_4 G4 hg hat
                  have B4 : Below V4.heap.size V4 w20_4 := B3.grown hg B3.size (fun q e => (World.ownsRow.lt G3 q e).1)
                  have X4 := heap_keep hg X3 NX3
                  have NX4 := at_ne hat NX3 (heap_lt X3)
                  have O4 := heap_keep hg O3 N13
                  have N14 := at_ne hat N13 (heap_lt O3)
                  clear hg hat
                  refine hK.out _ _ B4 (fun hHeld => ?_)
                  clear hK K
                  try simp only [Act.put, List.setIfInBounds_toArray, List.set_cons_zero, List.set_cons_succ]
                  refine wpAnyH_ready (rs := [10]) (by kernel_rfl) (by simp) ?_
                  refine held_cons rfl (by rfl) (fun K hK => ?_) ?_
                  · refine wp_append_at (.tmp 72) (.tmp 78) 22 rfl V4.heap.size 24 (.agg #[.int .u8 0, .int .i64 0, .string ⟨#[]⟩, .slice none 0 0]) 4 56 Tryd.underlying22 info24 rfl (by decide) _ _ _ (cs.flatten) rfl G4 _ (1) _ ([Value.int .u8 z.f0, .int .i64 z.f1, .string z.f2, .slice A3 z.f3.length c3]) rfl (rfl) ((World.news_of_block O4)) ((by intro u' hu'; simp at hu'; rcases hu' with rfl | rfl | rfl | rfl <;> rfl)) (x.f3.length + (1)) (by first | rfl | exact Nat.zero_add _) (cs.flatten ++ [Value.int .u8 z.f0, .int .i64 z.f1, .string z.f2, .slice A3 z.f3.length c3]) (by first | rfl | exact List.nil_append _) (by omega) (by decide) B4.size ?_
                    intro A20_4 c20_4 w20_5 G5 hg hat
                    have B5 : Below V4.heap.size V4 w20_5 := B4.grown hg B4.size (fun q e => (World.ownsRow.lt G4 q e).1)
                    have X5 := heap_keep hg X4 NX4
                    have NX5 := at_ne hat NX4 (heap_lt X4)
                    have O5 := heap_keep hg O4 N14
                    have N15 := at_ne hat N14 (heap_lt O4)
                    clear hg hat
                    refine hK.out _ _ B5 (fun hHeld => ?_)
                    clear hK K
                    try simp only [Act.put, List.setIfInBounds_toArray, List.set_cons_zero, List.set_cons_succ]
                    refine held_take 11 (v := _) rfl (by kernel_rfl) (by kernel_rfl) (by kernel_rfl) (by rfl) (by assumption) (fun w' hSw => by
                      skip
                      go_simp
                      try with_reducible rfl) ?_
                    try simp only [Act.put, List.setIfInBounds_toArray, List.set_cons_zero, List.set_cons_succ]
                    refine wpAnyH_ready (rs := [13]) (by kernel_rfl) (by simp) ?_
                    refine held_cons rfl (by rfl) (fun K hK => ?_) ?_
                    · unfold Oper.wp
                      have hz := heap_cells X5
                      have hzf := heap_frozen X5
                      go_simp
                      refine hK.out _ _ (B5.trans (set4_below (w20_2.heap.size) (by first | exact Nat.le_refl _ | exact BX) _ _ _ _)) (fun hHeld => ?_)
                      clear hK K
                      try simp only [Act.put, List.setIfInBounds_toArray, List.set_cons_zero, List.set_cons_succ]
                      refine wpAnyH_done (by kernel_rfl) ?_ _
                      show R20 _ _
                      rw [HR20.out]
                      have eL : x.f3.length + (1) = (x.f3 ++ [z]).length := by simp; try omega
                      have eF : cs.flatten ++ [Value.int .u8 z.f0, .int .i64 z.f1, .string z.f2, .slice A3 z.f3.length c3] = (cs ++ [[Value.int .u8 z.f0, .int .i64 z.f1, .string z.f2, .slice A3 z.f3.length c3]]).flatten := by simp
                      have hB4 : Below V4.heap.size V4 (put4 w20_5 (w20_2.heap.size) (.int .u8 47) (.int .i64 0) (.string ⟨#[]⟩) (.slice A20_4 (x.f3.length + (1)) c20_4)) := B5.trans (set4_below (w20_2.heap.size) (by first | exact Nat.le_refl _ | exact BX) _ _ _ _)
                      have hG4 : (put4 w20_5 (w20_2.heap.size) (.int .u8 47) (.int .i64 0) (.string ⟨#[]⟩) (.slice A20_4 (x.f3.length + (1)) c20_4)).ownsRow V4.heap.size 24 4 (.slice A20_4 (x.f3.length + (1)) c20_4) (x.f3.length + (1)) (cs.flatten ++ [Value.int .u8 z.f0, .int .i64 z.f1, .string z.f2, .slice A3 z.f3.length c3]) := own_keep G5 (fun g e => put4_far _ _ _ (fun h => NX5 (by rw [e, h])) _ _ _ _)
                      rw [eF] at hG4
                      have hAt : At (put4 w20_5 (w20_2.heap.size) (.int .u8 47) (.int .i64 0) (.string ⟨#[]⟩) (.slice A20_4 (x.f3.length + (1)) c20_4)) ⟨47, 0, ⟨#[]⟩, x.f3 ++ [z]⟩ _ _ := row_tree hG4 ((fun h => (HRW.out.below ((HBV4.out.trans (h.mono HBV4.out.size)))).append (RowOf.single (HAZ.out.below ((HBV4.out.trans (h.mono HBV4.out.size)))))) hB4) eL (by omega) 47 0 ⟨#[]⟩
                      have hcl : ∀ j, (put4 w20_5 (w20_2.heap.size) (.int .u8 47) (.int .i64 0) (.string ⟨#[]⟩) (.slice A20_4 (x.f3.length + (1)) c20_4)).cell? ⟨w20_2.heap.size, j, none⟩ = #[Value.int .u8 47, .int .i64 0, .string ⟨#[]⟩, .slice A20_4 (x.f3 ++ [z]).length c20_4][j]? := fun j => by rw [← eL]; exact set4 _ _ hz _ _ _ _ j
                      unfold put4 at hcl hAt
                      exact ⟨w20_2.heap.size, _, _, _, _, _, _, _, rfl, hHeld, (by first | exact Nat.le_refl _ | exact BX), hcl, hAt⟩
                    exact AllReadyH.nil
                  exact AllReadyH.nil
                exact AllReadyH.nil
              exact AllReadyH.nil
            refine held_cons rfl (by rfl) (fun K hK => ?_) ?_
            · unfold Oper.wp
              go_simp
              refine hK.out _ _ (hHeld.alloc hHeld.size _) (fun hHeld => ?_)
              clear hK K
              try simp only [Act.put, List.setIfInBounds_toArray, List.set_cons_zero, List.set_cons_succ]
              have BX := B1.size
              refine held_world (fun W' => Below V4.heap.size V4 W' ∧ W'.heap[w20_1.heap.size]? = some (.cells #[.int .u8 0, .int .i64 0, .string ⟨#[]⟩, .slice none 0 0] 24) ∧ W'.ownsRow V4.heap.size 24 4 (.slice (some ⟨V4.heap.size, 0, none⟩) 0 0) (0) ([]) ∧ (.slice (some ⟨V4.heap.size, 0, none⟩) 0 0 : Value).ownBlock ≠ some (w20_1.heap.size)) ⟨hHeld, World.alloc_heap_new _ _, World.ownsRow.alloc G1 _, own_ne G1⟩ (fun w20_2 hf => ?_)
              obtain ⟨B2, X2, G2, NX2⟩ := hf
              clear hHeld
              have hHeld := B2
              refine wpAnyH_ready (rs := [3, 9]) (by kernel_rfl) (by simp) ?_
              refine held_cons rfl (by rfl) (fun K hK => ?_) ?_
              · refine wp_append_at (.tmp 69) (.tmp 71) 22 rfl V4.heap.size 24 (.agg #[.int .u8 0, .int .i64 0, .string ⟨#[]⟩, .slice none 0 0]) 4 56 Tryd.underlying22 info24 rfl (by decide) _ _ _ ([]) rfl G2 _ (x.f3.length) _ (cs.flatten) rfl (NL3.out) ((NW3.out _ ((HBV4.out.trans (B2.mono HBV4.out.size))))) (NO3.out) (x.f3.length) (by first | rfl | exact Nat.zero_add _) (cs.flatten) (by first | rfl | exact List.nil_append _) (by omega) (by decide) B2.size ?_
                intro A20_2 c20_2 w20_3 G3 hg hat
                have B3 : Below V4.heap.size V4 w20_3 := B2.grown hg B2.size (fun q e => (World.ownsRow.lt G2 q e).1)
                have X3 := heap_keep hg X2 NX2
                have NX3 := at_ne hat NX2 (heap_lt X2)
                clear hg hat
                refine hK.out _ _ B3 (fun hHeld => ?_)
                clear hK K
                try simp only [Act.put, List.setIfInBounds_toArray, List.set_cons_zero, List.set_cons_succ]
                refine wpAnyH_ready (rs := [9]) (by kernel_rfl) (by simp) ?_
                refine held_cons rfl (by rfl) (fun K hK => ?_) ?_
                · unfold Oper.wp
                  go_simp
                  refine hK.out _ _ (hHeld.alloc hHeld.size _) (fun hHeld => ?_)
                  clear hK K
                  try simp only [Act.put, List.setIfInBounds_toArray, List.set_cons_zero, List.set_cons_succ]
                  refine held_world (fun W' => Below V4.heap.size V4 W' ∧ W'.heap[w20_1.heap.size]? = some (.cells #[.int .u8 0, .int .i64 0, .string ⟨#[]⟩, .slice none 0 0] 24) ∧ W'.heap[w20_3.heap.size]? = some (.cells #[.int .u8 z.f0, .int .i64 z.f1, .string z.f2, .slice A3 z.f3.length c3] 24) ∧ W'.ownsRow V4.heap.size 24 4 (.slice A20_2 (x.f3.length) c20_2) (x.f3.length) (cs.flatten) ∧ (.slice A20_2 (x.f3.length) c20_2 : Value).ownBlock ≠ some (w20_1.heap.size) ∧ (.slice A20_2 (x.f3.length) c20_2 : Value).ownBlock ≠ some (w20_3.heap.size)) ⟨hHeld, heap_alloc X3, World.alloc_heap_new _ _, World.ownsRow.alloc G3 _, NX3, own_ne G3⟩ (fun w20_4 hf => ?_)
                  obtain ⟨B4, X4, O4, G4, NX4, N14⟩ := hf
                  clear hHeld
                  have hHeld := B4
                  refine wpAnyH_ready (rs := [10]) (by kernel_rfl) (by simp) ?_
                  refine held_cons rfl (by rfl) (fun K hK => ?_) ?_
                  · refine wp_append_at (.tmp 72) (.tmp 78) 22 rfl V4.heap.size 24 (.agg #[.int .u8 0, .int .i64 0, .string ⟨#[]⟩, .slice none 0 0]) 4 56 Tryd.underlying22 info24 rfl (by decide) _ _ _ (cs.flatten) rfl G4 _ (1) _ ([Value.int .u8 z.f0, .int .i64 z.f1, .string z.f2, .slice A3 z.f3.length c3]) rfl (rfl) ((World.news_of_block O4)) ((by intro u' hu'; simp at hu'; rcases hu' with rfl | rfl | rfl | rfl <;> rfl)) (x.f3.length + (1)) (by first | rfl | exact Nat.zero_add _) (cs.flatten ++ [Value.int .u8 z.f0, .int .i64 z.f1, .string z.f2, .slice A3 z.f3.length c3]) (by first | rfl | exact List.nil_append _) (by omega) (by decide) B4.size ?_
                    intro A20_4 c20_4 w20_5 G5 hg hat
                    have B5 : Below V4.heap.size V4 w20_5 := B4.grown hg B4.size (fun q e => (World.ownsRow.lt G4 q e).1)
                    have X5 := heap_keep hg X4 NX4
                    have NX5 := at_ne hat NX4 (heap_lt X4)
                    have O5 := heap_keep hg O4 N14
                    have N15 := at_ne hat N14 (heap_lt O4)
                    clear hg hat
                    refine hK.out _ _ B5 (fun hHeld => ?_)
                    clear hK K
                    try simp only [Act.put, List.setIfInBounds_toArray, List.set_cons_zero, List.set_cons_succ]
                    refine held_take 11 (v := _) rfl (by kernel_rfl) (by kernel_rfl) (by kernel_rfl) (by rfl) (by assumption) (fun w' hSw => by
                      skip
                      go_simp
                      try with_reducible rfl) ?_
                    try simp only [Act.put, List.setIfInBounds_toArray, List.set_cons_zero, List.set_cons_succ]
                    refine wpAnyH_ready (rs := [13]) (by kernel_rfl) (by simp) ?_
                    refine held_cons rfl (by rfl) (fun K hK => ?_) ?_
                    · unfold Oper.wp
                      have hz := heap_cells X5
                      have hzf := heap_frozen X5
                      go_simp
                      refine hK.out _ _ (B5.trans (set4_below (w20_1.heap.size) (by first | exact Nat.le_refl _ | exact BX) _ _ _ _)) (fun hHeld => ?_)
                      clear hK K
                      try simp only [Act.put, List.setIfInBounds_toArray, List.set_cons_zero, List.set_cons_succ]
                      refine wpAnyH_done (by kernel_rfl) ?_ _
                      show R20 _ _
                      rw [HR20.out]
                      have eL : x.f3.length + (1) = (x.f3 ++ [z]).length := by simp; try omega
                      have eF : cs.flatten ++ [Value.int .u8 z.f0, .int .i64 z.f1, .string z.f2, .slice A3 z.f3.length c3] = (cs ++ [[Value.int .u8 z.f0, .int .i64 z.f1, .string z.f2, .slice A3 z.f3.length c3]]).flatten := by simp
                      have hB4 : Below V4.heap.size V4 (put4 w20_5 (w20_1.heap.size) (.int .u8 47) (.int .i64 0) (.string ⟨#[]⟩) (.slice A20_4 (x.f3.length + (1)) c20_4)) := B5.trans (set4_below (w20_1.heap.size) (by first | exact Nat.le_refl _ | exact BX) _ _ _ _)
                      have hG4 : (put4 w20_5 (w20_1.heap.size) (.int .u8 47) (.int .i64 0) (.string ⟨#[]⟩) (.slice A20_4 (x.f3.length + (1)) c20_4)).ownsRow V4.heap.size 24 4 (.slice A20_4 (x.f3.length + (1)) c20_4) (x.f3.length + (1)) (cs.flatten ++ [Value.int .u8 z.f0, .int .i64 z.f1, .string z.f2, .slice A3 z.f3.length c3]) := own_keep G5 (fun g e => put4_far _ _ _ (fun h => NX5 (by rw [e, h])) _ _ _ _)
                      rw [eF] at hG4
                      have hAt : At (put4 w20_5 (w20_1.heap.size) (.int .u8 47) (.int .i64 0) (.string ⟨#[]⟩) (.slice A20_4 (x.f3.length + (1)) c20_4)) ⟨47, 0, ⟨#[]⟩, x.f3 ++ [z]⟩ _ _ := row_tree hG4 ((fun h => (HRW.out.below ((HBV4.out.trans (h.mono HBV4.out.size)))).append (RowOf.single (HAZ.out.below ((HBV4.out.trans (h.mono HBV4.out.size)))))) hB4) eL (by omega) 47 0 ⟨#[]⟩
                      have hcl : ∀ j, (put4 w20_5 (w20_1.heap.size) (.int .u8 47) (.int .i64 0) (.string ⟨#[]⟩) (.slice A20_4 (x.f3.length + (1)) c20_4)).cell? ⟨w20_1.heap.size, j, none⟩ = #[Value.int .u8 47, .int .i64 0, .string ⟨#[]⟩, .slice A20_4 (x.f3 ++ [z]).length c20_4][j]? := fun j => by rw [← eL]; exact set4 _ _ hz _ _ _ _ j
                      unfold put4 at hcl hAt
                      exact ⟨w20_1.heap.size, _, _, _, _, _, _, _, rfl, hHeld, (by first | exact Nat.le_refl _ | exact BX), hcl, hAt⟩
                    exact AllReadyH.nil
                  exact AllReadyH.nil
                exact AllReadyH.nil
              refine held_cons rfl (by rfl) (fun K hK => ?_) ?_
              · unfold Oper.wp
                go_simp
                refine hK.out _ _ (hHeld.alloc hHeld.size _) (fun hHeld => ?_)
                clear hK K
                try simp only [Act.put, List.setIfInBounds_toArray, List.set_cons_zero, List.set_cons_succ]
                refine held_world (fun W' => Below V4.heap.size V4 W' ∧ W'.heap[w20_1.heap.size]? = some (.cells #[.int .u8 0, .int .i64 0, .string ⟨#[]⟩, .slice none 0 0] 24) ∧ W'.heap[w20_2.heap.size]? = some (.cells #[.int .u8 z.f0, .int .i64 z.f1, .string z.f2, .slice A3 z.f3.length c3] 24) ∧ W'.ownsRow V4.heap.size 24 4 (.slice (some ⟨V4.heap.size, 0, none⟩) 0 0) (0) ([]) ∧ (.slice (some ⟨V4.heap.size, 0, none⟩) 0 0 : Value).ownBlock ≠ some (w20_1.heap.size) ∧ (.slice (some ⟨V4.heap.size, 0, none⟩) 0 0 : Value).ownBlock ≠ some (w20_2.heap.size)) ⟨hHeld, heap_alloc X2, World.alloc_heap_new _ _, World.ownsRow.alloc G2 _, NX2, own_ne G2⟩ (fun w20_3 hf => ?_)
                obtain ⟨B3, X3, O3, G3, NX3, N13⟩ := hf
                clear hHeld
                have hHeld := B3
                refine wpAnyH_ready (rs := [3]) (by kernel_rfl) (by simp) ?_
                refine held_cons rfl (by rfl) (fun K hK => ?_) ?_
                · refine wp_append_at (.tmp 69) (.tmp 71) 22 rfl V4.heap.size 24 (.agg #[.int .u8 0, .int .i64 0, .string ⟨#[]⟩, .slice none 0 0]) 4 56 Tryd.underlying22 info24 rfl (by decide) _ _ _ ([]) rfl G3 _ (x.f3.length) _ (cs.flatten) rfl (NL3.out) ((NW3.out _ ((HBV4.out.trans (B3.mono HBV4.out.size))))) (NO3.out) (x.f3.length) (by first | rfl | exact Nat.zero_add _) (cs.flatten) (by first | rfl | exact List.nil_append _) (by omega) (by decide) B3.size ?_
                  intro A20_3 c20_3 w20_4 G4 hg hat
                  have B4 : Below V4.heap.size V4 w20_4 := B3.grown hg B3.size (fun q e => (World.ownsRow.lt G3 q e).1)
                  have X4 := heap_keep hg X3 NX3
                  have NX4 := at_ne hat NX3 (heap_lt X3)
                  have O4 := heap_keep hg O3 N13
                  have N14 := at_ne hat N13 (heap_lt O3)
                  clear hg hat
                  refine hK.out _ _ B4 (fun hHeld => ?_)
                  clear hK K
                  try simp only [Act.put, List.setIfInBounds_toArray, List.set_cons_zero, List.set_cons_succ]
                  refine wpAnyH_ready (rs := [10]) (by kernel_rfl) (by simp) ?_
                  refine held_cons rfl (by rfl) (fun K hK => ?_) ?_
                  · refine wp_append_at (.tmp 72) (.tmp 78) 22 rfl V4.heap.size 24 (.agg #[.int .u8 0, .int .i64 0, .string ⟨#[]⟩, .slice none 0 0]) 4 56 Tryd.underlying22 info24 rfl (by decide) _ _ _ (cs.flatten) rfl G4 _ (1) _ ([Value.int .u8 z.f0, .int .i64 z.f1, .string z.f2, .slice A3 z.f3.length c3]) rfl (rfl) ((World.news_of_block O4)) ((by intro u' hu'; simp at hu'; rcases hu' with rfl | rfl | rfl | rfl <;> rfl)) (x.f3.length + (1)) (by first | rfl | exact Nat.zero_add _) (cs.flatten ++ [Value.int .u8 z.f0, .int .i64 z.f1, .string z.f2, .slice A3 z.f3.length c3]) (by first | rfl | exact List.nil_append _) (by omega) (by decide) B4.size ?_
                    intro A20_4 c20_4 w20_5 G5 hg hat
                    have B5 : Below V4.heap.size V4 w20_5 := B4.grown hg B4.size (fun q e => (World.ownsRow.lt G4 q e).1)
                    have X5 := heap_keep hg X4 NX4
                    have NX5 := at_ne hat NX4 (heap_lt X4)
                    have O5 := heap_keep hg O4 N14
                    have N15 := at_ne hat N14 (heap_lt O4)
                    clear hg hat
                    refine hK.out _ _ B5 (fun hHeld => ?_)
                    clear hK K
                    try simp only [Act.put, List.setIfInBounds_toArray, List.set_cons_zero, List.set_cons_succ]
                    refine held_take 11 (v := _) rfl (by kernel_rfl) (by kernel_rfl) (by kernel_rfl) (by rfl) (by assumption) (fun w' hSw => by
                      skip
                      go_simp
                      try with_reducible rfl) ?_
                    try simp only [Act.put, List.setIfInBounds_toArray, List.set_cons_zero, List.set_cons_succ]
                    refine wpAnyH_ready (rs := [13]) (by kernel_rfl) (by simp) ?_
                    refine held_cons rfl (by rfl) (fun K hK => ?_) ?_
                    · unfold Oper.wp
                      have hz := heap_cells X5
                      have hzf := heap_frozen X5
                      go_simp
                      refine hK.out _ _ (B5.trans (set4_below (w20_1.heap.size) (by first | exact Nat.le_refl _ | exact BX) _ _ _ _)) (fun hHeld => ?_)
                      clear hK K
                      try simp only [Act.put, List.setIfInBounds_toArray, List.set_cons_zero, List.set_cons_succ]
                      refine wpAnyH_done (by kernel_rfl) ?_ _
                      show R20 _ _
                      rw [HR20.out]
                      have eL : x.f3.length + (1) = (x.f3 ++ [z]).length := by simp; try omega
                      have eF : cs.flatten ++ [Value.int .u8 z.f0, .int .i64 z.f1, .string z.f2, .slice A3 z.f3.length c3] = (cs ++ [[Value.int .u8 z.f0, .int .i64 z.f1, .string z.f2, .slice A3 z.f3.length c3]]).flatten := by simp
                      have hB4 : Below V4.heap.size V4 (put4 w20_5 (w20_1.heap.size) (.int .u8 47) (.int .i64 0) (.string ⟨#[]⟩) (.slice A20_4 (x.f3.length + (1)) c20_4)) := B5.trans (set4_below (w20_1.heap.size) (by first | exact Nat.le_refl _ | exact BX) _ _ _ _)
                      have hG4 : (put4 w20_5 (w20_1.heap.size) (.int .u8 47) (.int .i64 0) (.string ⟨#[]⟩) (.slice A20_4 (x.f3.length + (1)) c20_4)).ownsRow V4.heap.size 24 4 (.slice A20_4 (x.f3.length + (1)) c20_4) (x.f3.length + (1)) (cs.flatten ++ [Value.int .u8 z.f0, .int .i64 z.f1, .string z.f2, .slice A3 z.f3.length c3]) := own_keep G5 (fun g e => put4_far _ _ _ (fun h => NX5 (by rw [e, h])) _ _ _ _)
                      rw [eF] at hG4
                      have hAt : At (put4 w20_5 (w20_1.heap.size) (.int .u8 47) (.int .i64 0) (.string ⟨#[]⟩) (.slice A20_4 (x.f3.length + (1)) c20_4)) ⟨47, 0, ⟨#[]⟩, x.f3 ++ [z]⟩ _ _ := row_tree hG4 ((fun h => (HRW.out.below ((HBV4.out.trans (h.mono HBV4.out.size)))).append (RowOf.single (HAZ.out.below ((HBV4.out.trans (h.mono HBV4.out.size)))))) hB4) eL (by omega) 47 0 ⟨#[]⟩
                      have hcl : ∀ j, (put4 w20_5 (w20_1.heap.size) (.int .u8 47) (.int .i64 0) (.string ⟨#[]⟩) (.slice A20_4 (x.f3.length + (1)) c20_4)).cell? ⟨w20_1.heap.size, j, none⟩ = #[Value.int .u8 47, .int .i64 0, .string ⟨#[]⟩, .slice A20_4 (x.f3 ++ [z]).length c20_4][j]? := fun j => by rw [← eL]; exact set4 _ _ hz _ _ _ _ j
                      unfold put4 at hcl hAt
                      exact ⟨w20_1.heap.size, _, _, _, _, _, _, _, rfl, hHeld, (by first | exact Nat.le_refl _ | exact BX), hcl, hAt⟩
                    exact AllReadyH.nil
                  exact AllReadyH.nil
                exact AllReadyH.nil
              exact AllReadyH.nil
            exact AllReadyH.nil
          refine held_cons rfl (by rfl) (fun K hK => ?_) ?_
          · unfold Oper.wp
            go_simp
            refine hK.out _ _ (hHeld.alloc hHeld.size _) (fun hHeld => ?_)
            clear hK K
            try simp only [Act.put, List.setIfInBounds_toArray, List.set_cons_zero, List.set_cons_succ]
            refine held_world (fun W' => Below V4.heap.size V4 W' ∧ W'.heap[V4.heap.size]? = some (.cells #[.int .u8 z.f0, .int .i64 z.f1, .string z.f2, .slice A3 z.f3.length c3] 24)) ⟨hHeld, World.alloc_heap_new _ _⟩ (fun w20_1 hf => ?_)
            obtain ⟨B1, O1⟩ := hf
            clear hHeld
            have hHeld := B1
            refine wpAnyH_ready (rs := [0, 12]) (by kernel_rfl) (by simp) ?_
            refine held_cons rfl (by rfl) (fun K hK => ?_) ?_
            · unfold Oper.wp
              go_simp
              refine hK.out _ _ (hHeld.alloc hHeld.size _) (fun hHeld => ?_)
              clear hK K
              try simp only [Act.put, List.setIfInBounds_toArray, List.set_cons_zero, List.set_cons_succ]
              refine held_world (fun W' => Below V4.heap.size V4 W' ∧ W'.heap[V4.heap.size]? = some (.cells #[.int .u8 z.f0, .int .i64 z.f1, .string z.f2, .slice A3 z.f3.length c3] 24) ∧ W'.ownsRow V4.heap.size 24 4 (.slice (some ⟨w20_1.heap.size, 0, none⟩) 0 0) (0) ([]) ∧ (.slice (some ⟨w20_1.heap.size, 0, none⟩) 0 0 : Value).ownBlock ≠ some (V4.heap.size)) ⟨hHeld, heap_alloc O1, World.ownsRow_made _ #[] 0 B1.size (Nat.zero_le _) rfl, (fun e => by have := heap_lt O1; simp [Value.ownBlock] at e; (try simp at this); omega)⟩ (fun w20_2 hf => ?_)
              obtain ⟨B2, O2, G2, N12⟩ := hf
              clear hHeld
              have hHeld := B2
              refine wpAnyH_ready (rs := [3, 12]) (by kernel_rfl) (by simp) ?_
              refine held_cons rfl (by rfl) (fun K hK => ?_) ?_
              · refine wp_append_at (.tmp 69) (.tmp 71) 22 rfl V4.heap.size 24 (.agg #[.int .u8 0, .int .i64 0, .string ⟨#[]⟩, .slice none 0 0]) 4 56 Tryd.underlying22 info24 rfl (by decide) _ _ _ ([]) rfl G2 _ (x.f3.length) _ (cs.flatten) rfl (NL3.out) ((NW3.out _ ((HBV4.out.trans (B2.mono HBV4.out.size))))) (NO3.out) (x.f3.length) (by first | rfl | exact Nat.zero_add _) (cs.flatten) (by first | rfl | exact List.nil_append _) (by omega) (by decide) B2.size ?_
                intro A20_2 c20_2 w20_3 G3 hg hat
                have B3 : Below V4.heap.size V4 w20_3 := B2.grown hg B2.size (fun q e => (World.ownsRow.lt G2 q e).1)
                have O3 := heap_keep hg O2 N12
                have N13 := at_ne hat N12 (heap_lt O2)
                clear hg hat
                refine hK.out _ _ B3 (fun hHeld => ?_)
                clear hK K
                try simp only [Act.put, List.setIfInBounds_toArray, List.set_cons_zero, List.set_cons_succ]
                refine wpAnyH_ready (rs := [10, 12]) (by kernel_rfl) (by simp) ?_
                refine held_cons rfl (by rfl) (fun K hK => ?_) ?_
                · refine wp_append_at (.tmp 72) (.tmp 78) 22 rfl V4.heap.size 24 (.agg #[.int .u8 0, .int .i64 0, .string ⟨#[]⟩, .slice none 0 0]) 4 56 Tryd.underlying22 info24 rfl (by decide) _ _ _ (cs.flatten) rfl G3 _ (1) _ ([Value.int .u8 z.f0, .int .i64 z.f1, .string z.f2, .slice A3 z.f3.length c3]) rfl (rfl) ((World.news_of_block O3)) ((by intro u' hu'; simp at hu'; rcases hu' with rfl | rfl | rfl | rfl <;> rfl)) (x.f3.length + (1)) (by first | rfl | exact Nat.zero_add _) (cs.flatten ++ [Value.int .u8 z.f0, .int .i64 z.f1, .string z.f2, .slice A3 z.f3.length c3]) (by first | rfl | exact List.nil_append _) (by omega) (by decide) B3.size ?_
                  intro A20_3 c20_3 w20_4 G4 hg hat
                  have B4 : Below V4.heap.size V4 w20_4 := B3.grown hg B3.size (fun q e => (World.ownsRow.lt G3 q e).1)
                  have O4 := heap_keep hg O3 N13
                  have N14 := at_ne hat N13 (heap_lt O3)
                  clear hg hat
                  refine hK.out _ _ B4 (fun hHeld => ?_)
                  clear hK K
                  try simp only [Act.put, List.setIfInBounds_toArray, List.set_cons_zero, List.set_cons_succ]
                  refine held_take 11 (v := _) rfl (by kernel_rfl) (by kernel_rfl) (by kernel_rfl) (by rfl) (by assumption) (fun w' hSw => by
                    skip
                    go_simp
                    try with_reducible rfl) ?_
                  try simp only [Act.put, List.setIfInBounds_toArray, List.set_cons_zero, List.set_cons_succ]
                  refine wpAnyH_ready (rs := [12]) (by kernel_rfl) (by simp) ?_
                  refine held_cons rfl (by rfl) (fun K hK => ?_) ?_
                  · unfold Oper.wp
                    go_simp
                    refine hK.out _ _ (hHeld.alloc hHeld.size _) (fun hHeld => ?_)
                    clear hK K
                    try simp only [Act.put, List.setIfInBounds_toArray, List.set_cons_zero, List.set_cons_succ]
                    have BX := B4.size
                    refine held_world (fun W' => Below V4.heap.size V4 W' ∧ W'.heap[w20_4.heap.size]? = some (.cells #[.int .u8 0, .int .i64 0, .string ⟨#[]⟩, .slice none 0 0] 24) ∧ W'.heap[V4.heap.size]? = some (.cells #[.int .u8 z.f0, .int .i64 z.f1, .string z.f2, .slice A3 z.f3.length c3] 24) ∧ W'.ownsRow V4.heap.size 24 4 (.slice A20_3 (x.f3.length + (1)) c20_3) (x.f3.length + (1)) (cs.flatten ++ [Value.int .u8 z.f0, .int .i64 z.f1, .string z.f2, .slice A3 z.f3.length c3]) ∧ (.slice A20_3 (x.f3.length + (1)) c20_3 : Value).ownBlock ≠ some (w20_4.heap.size) ∧ (.slice A20_3 (x.f3.length + (1)) c20_3 : Value).ownBlock ≠ some (V4.heap.size)) ⟨hHeld, World.alloc_heap_new _ _, heap_alloc O4, World.ownsRow.alloc G4 _, own_ne G4, N14⟩ (fun w20_5 hf => ?_)
                    obtain ⟨B5, X5, O5, G5, NX5, N15⟩ := hf
                    clear hHeld
                    have hHeld := B5
                    refine wpAnyH_ready (rs := [13]) (by kernel_rfl) (by simp) ?_
                    refine held_cons rfl (by rfl) (fun K hK => ?_) ?_
                    · unfold Oper.wp
                      have hz := heap_cells X5
                      have hzf := heap_frozen X5
                      go_simp
                      refine hK.out _ _ (B5.trans (set4_below (w20_4.heap.size) (by first | exact Nat.le_refl _ | exact BX) _ _ _ _)) (fun hHeld => ?_)
                      clear hK K
                      try simp only [Act.put, List.setIfInBounds_toArray, List.set_cons_zero, List.set_cons_succ]
                      refine wpAnyH_done (by kernel_rfl) ?_ _
                      show R20 _ _
                      rw [HR20.out]
                      have eL : x.f3.length + (1) = (x.f3 ++ [z]).length := by simp; try omega
                      have eF : cs.flatten ++ [Value.int .u8 z.f0, .int .i64 z.f1, .string z.f2, .slice A3 z.f3.length c3] = (cs ++ [[Value.int .u8 z.f0, .int .i64 z.f1, .string z.f2, .slice A3 z.f3.length c3]]).flatten := by simp
                      have hB4 : Below V4.heap.size V4 (put4 w20_5 (w20_4.heap.size) (.int .u8 47) (.int .i64 0) (.string ⟨#[]⟩) (.slice A20_3 (x.f3.length + (1)) c20_3)) := B5.trans (set4_below (w20_4.heap.size) (by first | exact Nat.le_refl _ | exact BX) _ _ _ _)
                      have hG4 : (put4 w20_5 (w20_4.heap.size) (.int .u8 47) (.int .i64 0) (.string ⟨#[]⟩) (.slice A20_3 (x.f3.length + (1)) c20_3)).ownsRow V4.heap.size 24 4 (.slice A20_3 (x.f3.length + (1)) c20_3) (x.f3.length + (1)) (cs.flatten ++ [Value.int .u8 z.f0, .int .i64 z.f1, .string z.f2, .slice A3 z.f3.length c3]) := own_keep G5 (fun g e => put4_far _ _ _ (fun h => NX5 (by rw [e, h])) _ _ _ _)
                      rw [eF] at hG4
                      have hAt : At (put4 w20_5 (w20_4.heap.size) (.int .u8 47) (.int .i64 0) (.string ⟨#[]⟩) (.slice A20_3 (x.f3.length + (1)) c20_3)) ⟨47, 0, ⟨#[]⟩, x.f3 ++ [z]⟩ _ _ := row_tree hG4 ((fun h => (HRW.out.below ((HBV4.out.trans (h.mono HBV4.out.size)))).append (RowOf.single (HAZ.out.below ((HBV4.out.trans (h.mono HBV4.out.size)))))) hB4) eL (by omega) 47 0 ⟨#[]⟩
                      have hcl : ∀ j, (put4 w20_5 (w20_4.heap.size) (.int .u8 47) (.int .i64 0) (.string ⟨#[]⟩) (.slice A20_3 (x.f3.length + (1)) c20_3)).cell? ⟨w20_4.heap.size, j, none⟩ = #[Value.int .u8 47, .int .i64 0, .string ⟨#[]⟩, .slice A20_3 (x.f3 ++ [z]).length c20_3][j]? := fun j => by rw [← eL]; exact set4 _ _ hz _ _ _ _ j
                      unfold put4 at hcl hAt
                      exact ⟨w20_4.heap.size, _, _, _, _, _, _, _, rfl, hHeld, (by first | exact Nat.le_refl _ | exact BX), hcl, hAt⟩
                    exact AllReadyH.nil
                  exact AllReadyH.nil
                refine held_cons rfl (by rfl) (fun K hK => ?_) ?_
                · unfold Oper.wp
                  go_simp
                  refine hK.out _ _ (hHeld.alloc hHeld.size _) (fun hHeld => ?_)
                  clear hK K
                  try simp only [Act.put, List.setIfInBounds_toArray, List.set_cons_zero, List.set_cons_succ]
                  have BX := B3.size
                  refine held_world (fun W' => Below V4.heap.size V4 W' ∧ W'.heap[w20_3.heap.size]? = some (.cells #[.int .u8 0, .int .i64 0, .string ⟨#[]⟩, .slice none 0 0] 24) ∧ W'.heap[V4.heap.size]? = some (.cells #[.int .u8 z.f0, .int .i64 z.f1, .string z.f2, .slice A3 z.f3.length c3] 24) ∧ W'.ownsRow V4.heap.size 24 4 (.slice A20_2 (x.f3.length) c20_2) (x.f3.length) (cs.flatten) ∧ (.slice A20_2 (x.f3.length) c20_2 : Value).ownBlock ≠ some (w20_3.heap.size) ∧ (.slice A20_2 (x.f3.length) c20_2 : Value).ownBlock ≠ some (V4.heap.size)) ⟨hHeld, World.alloc_heap_new _ _, heap_alloc O3, World.ownsRow.alloc G3 _, own_ne G3, N13⟩ (fun w20_4 hf => ?_)
                  obtain ⟨B4, X4, O4, G4, NX4, N14⟩ := hf
                  clear hHeld
                  have hHeld := B4
                  refine wpAnyH_ready (rs := [10]) (by kernel_rfl) (by simp) ?_
                  refine held_cons rfl (by rfl) (fun K hK => ?_) ?_
                  · refine wp_append_at (.tmp 72) (.tmp 78) 22 rfl V4.heap.size 24 (.agg #[.int .u8 0, .int .i64 0, .string ⟨#[]⟩, .slice none 0 0]) 4 56 Tryd.underlying22 info24 rfl (by decide) _ _ _ (cs.flatten) rfl G4 _ (1) _ ([Value.int .u8 z.f0, .int .i64 z.f1, .string z.f2, .slice A3 z.f3.length c3]) rfl (rfl) ((World.news_of_block O4)) ((by intro u' hu'; simp at hu'; rcases hu' with rfl | rfl | rfl | rfl <;> rfl)) (x.f3.length + (1)) (by first | rfl | exact Nat.zero_add _) (cs.flatten ++ [Value.int .u8 z.f0, .int .i64 z.f1, .string z.f2, .slice A3 z.f3.length c3]) (by first | rfl | exact List.nil_append _) (by omega) (by decide) B4.size ?_
                    intro A20_4 c20_4 w20_5 G5 hg hat
                    have B5 : Below V4.heap.size V4 w20_5 := B4.grown hg B4.size (fun q e => (World.ownsRow.lt G4 q e).1)
                    have X5 := heap_keep hg X4 NX4
                    have NX5 := at_ne hat NX4 (heap_lt X4)
                    have O5 := heap_keep hg O4 N14
                    have N15 := at_ne hat N14 (heap_lt O4)
                    clear hg hat
                    refine hK.out _ _ B5 (fun hHeld => ?_)
                    clear hK K
                    try simp only [Act.put, List.setIfInBounds_toArray, List.set_cons_zero, List.set_cons_succ]
                    refine held_take 11 (v := _) rfl (by kernel_rfl) (by kernel_rfl) (by kernel_rfl) (by rfl) (by assumption) (fun w' hSw => by
                      skip
                      go_simp
                      try with_reducible rfl) ?_
                    try simp only [Act.put, List.setIfInBounds_toArray, List.set_cons_zero, List.set_cons_succ]
                    refine wpAnyH_ready (rs := [13]) (by kernel_rfl) (by simp) ?_
                    refine held_cons rfl (by rfl) (fun K hK => ?_) ?_
                    · unfold Oper.wp
                      have hz := heap_cells X5
                      have hzf := heap_frozen X5
                      go_simp
                      refine hK.out _ _ (B5.trans (set4_below (w20_3.heap.size) (by first | exact Nat.le_refl _ | exact BX) _ _ _ _)) (fun hHeld => ?_)
                      clear hK K
                      try simp only [Act.put, List.setIfInBounds_toArray, List.set_cons_zero, List.set_cons_succ]
                      refine wpAnyH_done (by kernel_rfl) ?_ _
                      show R20 _ _
                      rw [HR20.out]
                      have eL : x.f3.length + (1) = (x.f3 ++ [z]).length := by simp; try omega
                      have eF : cs.flatten ++ [Value.int .u8 z.f0, .int .i64 z.f1, .string z.f2, .slice A3 z.f3.length c3] = (cs ++ [[Value.int .u8 z.f0, .int .i64 z.f1, .string z.f2, .slice A3 z.f3.length c3]]).flatten := by simp
                      have hB4 : Below V4.heap.size V4 (put4 w20_5 (w20_3.heap.size) (.int .u8 47) (.int .i64 0) (.string ⟨#[]⟩) (.slice A20_4 (x.f3.length + (1)) c20_4)) := B5.trans (set4_below (w20_3.heap.size) (by first | exact Nat.le_refl _ | exact BX) _ _ _ _)
                      have hG4 : (put4 w20_5 (w20_3.heap.size) (.int .u8 47) (.int .i64 0) (.string ⟨#[]⟩) (.slice A20_4 (x.f3.length + (1)) c20_4)).ownsRow V4.heap.size 24 4 (.slice A20_4 (x.f3.length + (1)) c20_4) (x.f3.length + (1)) (cs.flatten ++ [Value.int .u8 z.f0, .int .i64 z.f1, .string z.f2, .slice A3 z.f3.length c3]) := own_keep G5 (fun g e => put4_far _ _ _ (fun h => NX5 (by rw [e, h])) _ _ _ _)
                      rw [eF] at hG4
                      have hAt : At (put4 w20_5 (w20_3.heap.size) (.int .u8 47) (.int .i64 0) (.string ⟨#[]⟩) (.slice A20_4 (x.f3.length + (1)) c20_4)) ⟨47, 0, ⟨#[]⟩, x.f3 ++ [z]⟩ _ _ := row_tree hG4 ((fun h => (HRW.out.below ((HBV4.out.trans (h.mono HBV4.out.size)))).append (RowOf.single (HAZ.out.below ((HBV4.out.trans (h.mono HBV4.out.size)))))) hB4) eL (by omega) 47 0 ⟨#[]⟩
                      have hcl : ∀ j, (put4 w20_5 (w20_3.heap.size) (.int .u8 47) (.int .i64 0) (.string ⟨#[]⟩) (.slice A20_4 (x.f3.length + (1)) c20_4)).cell? ⟨w20_3.heap.size, j, none⟩ = #[Value.int .u8 47, .int .i64 0, .string ⟨#[]⟩, .slice A20_4 (x.f3 ++ [z]).length c20_4][j]? := fun j => by rw [← eL]; exact set4 _ _ hz _ _ _ _ j
                      unfold put4 at hcl hAt
                      exact ⟨w20_3.heap.size, _, _, _, _, _, _, _, rfl, hHeld, (by first | exact Nat.le_refl _ | exact BX), hcl, hAt⟩
                    exact AllReadyH.nil
                  exact AllReadyH.nil
                exact AllReadyH.nil
              refine held_cons rfl (by rfl) (fun K hK => ?_) ?_
              · unfold Oper.wp
                go_simp
                refine hK.out _ _ (hHeld.alloc hHeld.size _) (fun hHeld => ?_)
                clear hK K
                try simp only [Act.put, List.setIfInBounds_toArray, List.set_cons_zero, List.set_cons_succ]
                have BX := B2.size
                refine held_world (fun W' => Below V4.heap.size V4 W' ∧ W'.heap[w20_2.heap.size]? = some (.cells #[.int .u8 0, .int .i64 0, .string ⟨#[]⟩, .slice none 0 0] 24) ∧ W'.heap[V4.heap.size]? = some (.cells #[.int .u8 z.f0, .int .i64 z.f1, .string z.f2, .slice A3 z.f3.length c3] 24) ∧ W'.ownsRow V4.heap.size 24 4 (.slice (some ⟨w20_1.heap.size, 0, none⟩) 0 0) (0) ([]) ∧ (.slice (some ⟨w20_1.heap.size, 0, none⟩) 0 0 : Value).ownBlock ≠ some (w20_2.heap.size) ∧ (.slice (some ⟨w20_1.heap.size, 0, none⟩) 0 0 : Value).ownBlock ≠ some (V4.heap.size)) ⟨hHeld, World.alloc_heap_new _ _, heap_alloc O2, World.ownsRow.alloc G2 _, own_ne G2, N12⟩ (fun w20_3 hf => ?_)
                obtain ⟨B3, X3, O3, G3, NX3, N13⟩ := hf
                clear hHeld
                have hHeld := B3
                refine wpAnyH_ready (rs := [3]) (by kernel_rfl) (by simp) ?_
                refine held_cons rfl (by rfl) (fun K hK => ?_) ?_
                · refine wp_append_at (.tmp 69) (.tmp 71) 22 rfl V4.heap.size 24 (.agg #[.int .u8 0, .int .i64 0, .string ⟨#[]⟩, .slice none 0 0]) 4 56 Tryd.underlying22 info24 rfl (by decide) _ _ _ ([]) rfl G3 _ (x.f3.length) _ (cs.flatten) rfl (NL3.out) ((NW3.out _ ((HBV4.out.trans (B3.mono HBV4.out.size))))) (NO3.out) (x.f3.length) (by first | rfl | exact Nat.zero_add _) (cs.flatten) (by first | rfl | exact List.nil_append _) (by omega) (by decide) B3.size ?_
                  intro A20_3 c20_3 w20_4 G4 hg hat
                  have B4 : Below V4.heap.size V4 w20_4 := B3.grown hg B3.size (fun q e => (World.ownsRow.lt G3 q e).1)
                  have X4 := heap_keep hg X3 NX3
                  have NX4 := at_ne hat NX3 (heap_lt X3)
                  have O4 := heap_keep hg O3 N13
                  have N14 := at_ne hat N13 (heap_lt O3)
                  clear hg hat
                  refine hK.out _ _ B4 (fun hHeld => ?_)
                  clear hK K
                  try simp only [Act.put, List.setIfInBounds_toArray, List.set_cons_zero, List.set_cons_succ]
                  refine wpAnyH_ready (rs := [10]) (by kernel_rfl) (by simp) ?_
                  refine held_cons rfl (by rfl) (fun K hK => ?_) ?_
                  · refine wp_append_at (.tmp 72) (.tmp 78) 22 rfl V4.heap.size 24 (.agg #[.int .u8 0, .int .i64 0, .string ⟨#[]⟩, .slice none 0 0]) 4 56 Tryd.underlying22 info24 rfl (by decide) _ _ _ (cs.flatten) rfl G4 _ (1) _ ([Value.int .u8 z.f0, .int .i64 z.f1, .string z.f2, .slice A3 z.f3.length c3]) rfl (rfl) ((World.news_of_block O4)) ((by intro u' hu'; simp at hu'; rcases hu' with rfl | rfl | rfl | rfl <;> rfl)) (x.f3.length + (1)) (by first | rfl | exact Nat.zero_add _) (cs.flatten ++ [Value.int .u8 z.f0, .int .i64 z.f1, .string z.f2, .slice A3 z.f3.length c3]) (by first | rfl | exact List.nil_append _) (by omega) (by decide) B4.size ?_
                    intro A20_4 c20_4 w20_5 G5 hg hat
                    have B5 : Below V4.heap.size V4 w20_5 := B4.grown hg B4.size (fun q e => (World.ownsRow.lt G4 q e).1)
                    have X5 := heap_keep hg X4 NX4
                    have NX5 := at_ne hat NX4 (heap_lt X4)
                    have O5 := heap_keep hg O4 N14
                    have N15 := at_ne hat N14 (heap_lt O4)
                    clear hg hat
                    refine hK.out _ _ B5 (fun hHeld => ?_)
                    clear hK K
                    try simp only [Act.put, List.setIfInBounds_toArray, List.set_cons_zero, List.set_cons_succ]
                    refine held_take 11 (v := _) rfl (by kernel_rfl) (by kernel_rfl) (by kernel_rfl) (by rfl) (by assumption) (fun w' hSw => by
                      skip
                      go_simp
                      try with_reducible rfl) ?_
                    try simp only [Act.put, List.setIfInBounds_toArray, List.set_cons_zero, List.set_cons_succ]
                    refine wpAnyH_ready (rs := [13]) (by kernel_rfl) (by simp) ?_
                    refine held_cons rfl (by rfl) (fun K hK => ?_) ?_
                    · unfold Oper.wp
                      have hz := heap_cells X5
                      have hzf := heap_frozen X5
                      go_simp
                      refine hK.out _ _ (B5.trans (set4_below (w20_2.heap.size) (by first | exact Nat.le_refl _ | exact BX) _ _ _ _)) (fun hHeld => ?_)
                      clear hK K
                      try simp only [Act.put, List.setIfInBounds_toArray, List.set_cons_zero, List.set_cons_succ]
                      refine wpAnyH_done (by kernel_rfl) ?_ _
                      show R20 _ _
                      rw [HR20.out]
                      have eL : x.f3.length + (1) = (x.f3 ++ [z]).length := by simp; try omega
                      have eF : cs.flatten ++ [Value.int .u8 z.f0, .int .i64 z.f1, .string z.f2, .slice A3 z.f3.length c3] = (cs ++ [[Value.int .u8 z.f0, .int .i64 z.f1, .string z.f2, .slice A3 z.f3.length c3]]).flatten := by simp
                      have hB4 : Below V4.heap.size V4 (put4 w20_5 (w20_2.heap.size) (.int .u8 47) (.int .i64 0) (.string ⟨#[]⟩) (.slice A20_4 (x.f3.length + (1)) c20_4)) := B5.trans (set4_below (w20_2.heap.size) (by first | exact Nat.le_refl _ | exact BX) _ _ _ _)
                      have hG4 : (put4 w20_5 (w20_2.heap.size) (.int .u8 47) (.int .i64 0) (.string ⟨#[]⟩) (.slice A20_4 (x.f3.length + (1)) c20_4)).ownsRow V4.heap.size 24 4 (.slice A20_4 (x.f3.length + (1)) c20_4) (x.f3.length + (1)) (cs.flatten ++ [Value.int .u8 z.f0, .int .i64 z.f1, .string z.f2, .slice A3 z.f3.length c3]) := own_keep G5 (fun g e => put4_far _ _ _ (fun h => NX5 (by rw [e, h])) _ _ _ _)
                      rw [eF] at hG4
                      have hAt : At (put4 w20_5 (w20_2.heap.size) (.int .u8 47) (.int .i64 0) (.string ⟨#[]⟩) (.slice A20_4 (x.f3.length + (1)) c20_4)) ⟨47, 0, ⟨#[]⟩, x.f3 ++ [z]⟩ _ _ := row_tree hG4 ((fun h => (HRW.out.below ((HBV4.out.trans (h.mono HBV4.out.size)))).append (RowOf.single (HAZ.out.below ((HBV4.out.trans (h.mono HBV4.out.size)))))) hB4) eL (by omega) 47 0 ⟨#[]⟩
                      have hcl : ∀ j, (put4 w20_5 (w20_2.heap.size) (.int .u8 47) (.int .i64 0) (.string ⟨#[]⟩) (.slice A20_4 (x.f3.length + (1)) c20_4)).cell? ⟨w20_2.heap.size, j, none⟩ = #[Value.int .u8 47, .int .i64 0, .string ⟨#[]⟩, .slice A20_4 (x.f3 ++ [z]).length c20_4][j]? := fun j => by rw [← eL]; exact set4 _ _ hz _ _ _ _ j
                      unfold put4 at hcl hAt
                      exact ⟨w20_2.heap.size, _, _, _, _, _, _, _, rfl, hHeld, (by first | exact Nat.le_refl _ | exact BX), hcl, hAt⟩
                    exact AllReadyH.nil
                  exact AllReadyH.nil
                exact AllReadyH.nil
              exact AllReadyH.nil
            refine held_cons rfl (by rfl) (fun K hK => ?_) ?_
            · unfold Oper.wp
              go_simp
              refine hK.out _ _ (hHeld.alloc hHeld.size _) (fun hHeld => ?_)
              clear hK K
              try simp only [Act.put, List.setIfInBounds_toArray, List.set_cons_zero, List.set_cons_succ]
              have BX := B1.size
              refine held_world (fun W' => Below V4.heap.size V4 W' ∧ W'.heap[w20_1.heap.size]? = some (.cells #[.int .u8 0, .int .i64 0, .string ⟨#[]⟩, .slice none 0 0] 24) ∧ W'.heap[V4.heap.size]? = some (.cells #[.int .u8 z.f0, .int .i64 z.f1, .string z.f2, .slice A3 z.f3.length c3] 24)) ⟨hHeld, World.alloc_heap_new _ _, heap_alloc O1⟩ (fun w20_2 hf => ?_)
              obtain ⟨B2, X2, O2⟩ := hf
              clear hHeld
              have hHeld := B2
              refine wpAnyH_ready (rs := [0]) (by kernel_rfl) (by simp) ?_
              refine held_cons rfl (by rfl) (fun K hK => ?_) ?_
              · unfold Oper.wp
                go_simp
                refine hK.out _ _ (hHeld.alloc hHeld.size _) (fun hHeld => ?_)
                clear hK K
                try simp only [Act.put, List.setIfInBounds_toArray, List.set_cons_zero, List.set_cons_succ]
                refine held_world (fun W' => Below V4.heap.size V4 W' ∧ W'.heap[w20_1.heap.size]? = some (.cells #[.int .u8 0, .int .i64 0, .string ⟨#[]⟩, .slice none 0 0] 24) ∧ W'.heap[V4.heap.size]? = some (.cells #[.int .u8 z.f0, .int .i64 z.f1, .string z.f2, .slice A3 z.f3.length c3] 24) ∧ W'.ownsRow V4.heap.size 24 4 (.slice (some ⟨w20_2.heap.size, 0, none⟩) 0 0) (0) ([]) ∧ (.slice (some ⟨w20_2.heap.size, 0, none⟩) 0 0 : Value).ownBlock ≠ some (w20_1.heap.size) ∧ (.slice (some ⟨w20_2.heap.size, 0, none⟩) 0 0 : Value).ownBlock ≠ some (V4.heap.size)) ⟨hHeld, heap_alloc X2, heap_alloc O2, World.ownsRow_made _ #[] 0 B2.size (Nat.zero_le _) rfl, (fun e => by have := heap_lt X2; simp [Value.ownBlock] at e; (try simp at this); omega), (fun e => by have := heap_lt O2; simp [Value.ownBlock] at e; (try simp at this); omega)⟩ (fun w20_3 hf => ?_)
                obtain ⟨B3, X3, O3, G3, NX3, N13⟩ := hf
                clear hHeld
                have hHeld := B3
                refine wpAnyH_ready (rs := [3]) (by kernel_rfl) (by simp) ?_
                refine held_cons rfl (by rfl) (fun K hK => ?_) ?_
                · refine wp_append_at (.tmp 69) (.tmp 71) 22 rfl V4.heap.size 24 (.agg #[.int .u8 0, .int .i64 0, .string ⟨#[]⟩, .slice none 0 0]) 4 56 Tryd.underlying22 info24 rfl (by decide) _ _ _ ([]) rfl G3 _ (x.f3.length) _ (cs.flatten) rfl (NL3.out) ((NW3.out _ ((HBV4.out.trans (B3.mono HBV4.out.size))))) (NO3.out) (x.f3.length) (by first | rfl | exact Nat.zero_add _) (cs.flatten) (by first | rfl | exact List.nil_append _) (by omega) (by decide) B3.size ?_
                  intro A20_3 c20_3 w20_4 G4 hg hat
                  have B4 : Below V4.heap.size V4 w20_4 := B3.grown hg B3.size (fun q e => (World.ownsRow.lt G3 q e).1)
                  have X4 := heap_keep hg X3 NX3
                  have NX4 := at_ne hat NX3 (heap_lt X3)
                  have O4 := heap_keep hg O3 N13
                  have N14 := at_ne hat N13 (heap_lt O3)
                  clear hg hat
                  refine hK.out _ _ B4 (fun hHeld => ?_)
                  clear hK K
                  try simp only [Act.put, List.setIfInBounds_toArray, List.set_cons_zero, List.set_cons_succ]
                  refine wpAnyH_ready (rs := [10]) (by kernel_rfl) (by simp) ?_
                  refine held_cons rfl (by rfl) (fun K hK => ?_) ?_
                  · refine wp_append_at (.tmp 72) (.tmp 78) 22 rfl V4.heap.size 24 (.agg #[.int .u8 0, .int .i64 0, .string ⟨#[]⟩, .slice none 0 0]) 4 56 Tryd.underlying22 info24 rfl (by decide) _ _ _ (cs.flatten) rfl G4 _ (1) _ ([Value.int .u8 z.f0, .int .i64 z.f1, .string z.f2, .slice A3 z.f3.length c3]) rfl (rfl) ((World.news_of_block O4)) ((by intro u' hu'; simp at hu'; rcases hu' with rfl | rfl | rfl | rfl <;> rfl)) (x.f3.length + (1)) (by first | rfl | exact Nat.zero_add _) (cs.flatten ++ [Value.int .u8 z.f0, .int .i64 z.f1, .string z.f2, .slice A3 z.f3.length c3]) (by first | rfl | exact List.nil_append _) (by omega) (by decide) B4.size ?_
                    intro A20_4 c20_4 w20_5 G5 hg hat
                    have B5 : Below V4.heap.size V4 w20_5 := B4.grown hg B4.size (fun q e => (World.ownsRow.lt G4 q e).1)
                    have X5 := heap_keep hg X4 NX4
                    have NX5 := at_ne hat NX4 (heap_lt X4)
                    have O5 := heap_keep hg O4 N14
                    have N15 := at_ne hat N14 (heap_lt O4)
                    clear hg hat
                    refine hK.out _ _ B5 (fun hHeld => ?_)
                    clear hK K
                    try simp only [Act.put, List.setIfInBounds_toArray, List.set_cons_zero, List.set_cons_succ]
                    refine held_take 11 (v := _) rfl (by kernel_rfl) (by kernel_rfl) (by kernel_rfl) (by rfl) (by assumption) (fun w' hSw => by
                      skip
                      go_simp
                      try with_reducible rfl) ?_
                    try simp only [Act.put, List.setIfInBounds_toArray, List.set_cons_zero, List.set_cons_succ]
                    refine wpAnyH_ready (rs := [13]) (by kernel_rfl) (by simp) ?_
                    refine held_cons rfl (by rfl) (fun K hK => ?_) ?_
                    · unfold Oper.wp
                      have hz := heap_cells X5
                      have hzf := heap_frozen X5
                      go_simp
                      refine hK.out _ _ (B5.trans (set4_below (w20_1.heap.size) (by first | exact Nat.le_refl _ | exact BX) _ _ _ _)) (fun hHeld => ?_)
                      clear hK K
                      try simp only [Act.put, List.setIfInBounds_toArray, List.set_cons_zero, List.set_cons_succ]
                      refine wpAnyH_done (by kernel_rfl) ?_ _
                      show R20 _ _
                      rw [HR20.out]
                      have eL : x.f3.length + (1) = (x.f3 ++ [z]).length := by simp; try omega
                      have eF : cs.flatten ++ [Value.int .u8 z.f0, .int .i64 z.f1, .string z.f2, .slice A3 z.f3.length c3] = (cs ++ [[Value.int .u8 z.f0, .int .i64 z.f1, .string z.f2, .slice A3 z.f3.length c3]]).flatten := by simp
                      have hB4 : Below V4.heap.size V4 (put4 w20_5 (w20_1.heap.size) (.int .u8 47) (.int .i64 0) (.string ⟨#[]⟩) (.slice A20_4 (x.f3.length + (1)) c20_4)) := B5.trans (set4_below (w20_1.heap.size) (by first | exact Nat.le_refl _ | exact BX) _ _ _ _)
                      have hG4 : (put4 w20_5 (w20_1.heap.size) (.int .u8 47) (.int .i64 0) (.string ⟨#[]⟩) (.slice A20_4 (x.f3.length + (1)) c20_4)).ownsRow V4.heap.size 24 4 (.slice A20_4 (x.f3.length + (1)) c20_4) (x.f3.length + (1)) (cs.flatten ++ [Value.int .u8 z.f0, .int .i64 z.f1, .string z.f2, .slice A3 z.f3.length c3]) := own_keep G5 (fun g e => put4_far _ _ _ (fun h => NX5 (by rw [e, h])) _ _ _ _)
                      rw [eF] at hG4
                      have hAt : At (put4 w20_5 (w20_1.heap.size) (.int .u8 47) (.int .i64 0) (.string ⟨#[]⟩) (.slice A20_4 (x.f3.length + (1)) c20_4)) ⟨47, 0, ⟨#[]⟩, x.f3 ++ [z]⟩ _ _ := row_tree hG4 ((fun h => (HRW.out.below ((HBV4.out.trans (h.mono HBV4.out.size)))).append (RowOf.single (HAZ.out.below ((HBV4.out.trans (h.mono HBV4.out.size)))))) hB4) eL (by omega) 47 0 ⟨#[]⟩
                      have hcl : ∀ j, (put4 w20_5 (w20_1.heap.size) (.int .u8 47) (.int .i64 0) (.string ⟨#[]⟩) (.slice A20_4 (x.f3.length + (1)) c20_4)).cell? ⟨w20_1.heap.size, j, none⟩ = #[Value.int .u8 47, .int .i64 0, .string ⟨#[]⟩, .slice A20_4 (x.f3 ++ [z]).length c20_4][j]? := fun j => by rw [← eL]; exact set4 _ _ hz _ _ _ _ j
                      unfold put4 at hcl hAt
                      exact ⟨w20_1.heap.size, _, _, _, _, _, _, _, rfl, hHeld, (by first | exact Nat.le_refl _ | exact BX), hcl, hAt⟩
                    exact AllReadyH.nil
                  exact AllReadyH.nil
                exact AllReadyH.nil
              exact AllReadyH.nil
            exact AllReadyH.nil
          refine held_cons rfl (by rfl) (fun K hK => ?_) ?_
          · unfold Oper.wp
            go_simp
            refine hK.out _ _ (hHeld.alloc hHeld.size _) (fun hHeld => ?_)
            clear hK K
            try simp only [Act.put, List.setIfInBounds_toArray, List.set_cons_zero, List.set_cons_succ]
            have BX := B0.size
            refine held_world (fun W' => Below V4.heap.size V4 W' ∧ W'.heap[V4.heap.size]? = some (.cells #[.int .u8 0, .int .i64 0, .string ⟨#[]⟩, .slice none 0 0] 24)) ⟨hHeld, World.alloc_heap_new _ _⟩ (fun w20_1 hf => ?_)
            obtain ⟨B1, X1⟩ := hf
            clear hHeld
            have hHeld := B1
            refine wpAnyH_ready (rs := [0, 9]) (by kernel_rfl) (by simp) ?_
            refine held_cons rfl (by rfl) (fun K hK => ?_) ?_
            · unfold Oper.wp
              go_simp
              refine hK.out _ _ (hHeld.alloc hHeld.size _) (fun hHeld => ?_)
              clear hK K
              try simp only [Act.put, List.setIfInBounds_toArray, List.set_cons_zero, List.set_cons_succ]
              refine held_world (fun W' => Below V4.heap.size V4 W' ∧ W'.heap[V4.heap.size]? = some (.cells #[.int .u8 0, .int .i64 0, .string ⟨#[]⟩, .slice none 0 0] 24) ∧ W'.ownsRow V4.heap.size 24 4 (.slice (some ⟨w20_1.heap.size, 0, none⟩) 0 0) (0) ([]) ∧ (.slice (some ⟨w20_1.heap.size, 0, none⟩) 0 0 : Value).ownBlock ≠ some (V4.heap.size)) ⟨hHeld, heap_alloc X1, World.ownsRow_made _ #[] 0 B1.size (Nat.zero_le _) rfl, (fun e => by have := heap_lt X1; simp [Value.ownBlock] at e; (try simp at this); omega)⟩ (fun w20_2 hf => ?_)
              obtain ⟨B2, X2, G2, NX2⟩ := hf
              clear hHeld
              have hHeld := B2
              refine wpAnyH_ready (rs := [3, 9]) (by kernel_rfl) (by simp) ?_
              refine held_cons rfl (by rfl) (fun K hK => ?_) ?_
              · refine wp_append_at (.tmp 69) (.tmp 71) 22 rfl V4.heap.size 24 (.agg #[.int .u8 0, .int .i64 0, .string ⟨#[]⟩, .slice none 0 0]) 4 56 Tryd.underlying22 info24 rfl (by decide) _ _ _ ([]) rfl G2 _ (x.f3.length) _ (cs.flatten) rfl (NL3.out) ((NW3.out _ ((HBV4.out.trans (B2.mono HBV4.out.size))))) (NO3.out) (x.f3.length) (by first | rfl | exact Nat.zero_add _) (cs.flatten) (by first | rfl | exact List.nil_append _) (by omega) (by decide) B2.size ?_
                intro A20_2 c20_2 w20_3 G3 hg hat
                have B3 : Below V4.heap.size V4 w20_3 := B2.grown hg B2.size (fun q e => (World.ownsRow.lt G2 q e).1)
                have X3 := heap_keep hg X2 NX2
                have NX3 := at_ne hat NX2 (heap_lt X2)
                clear hg hat
                refine hK.out _ _ B3 (fun hHeld => ?_)
                clear hK K
                try simp only [Act.put, List.setIfInBounds_toArray, List.set_cons_zero, List.set_cons_succ]
                refine wpAnyH_ready (rs := [9]) (by kernel_rfl) (by simp) ?_
                refine held_cons rfl (by rfl) (fun K hK => ?_) ?_
                · unfold Oper.wp
                  go_simp
                  refine hK.out _ _ (hHeld.alloc hHeld.size _) (fun hHeld => ?_)
                  clear hK K
                  try simp only [Act.put, List.setIfInBounds_toArray, List.set_cons_zero, List.set_cons_succ]
                  refine held_world (fun W' => Below V4.heap.size V4 W' ∧ W'.heap[V4.heap.size]? = some (.cells #[.int .u8 0, .int .i64 0, .string ⟨#[]⟩, .slice none 0 0] 24) ∧ W'.heap[w20_3.heap.size]? = some (.cells #[.int .u8 z.f0, .int .i64 z.f1, .string z.f2, .slice A3 z.f3.length c3] 24) ∧ W'.ownsRow V4.heap.size 24 4 (.slice A20_2 (x.f3.length) c20_2) (x.f3.length) (cs.flatten) ∧ (.slice A20_2 (x.f3.length) c20_2 : Value).ownBlock ≠ some (V4.heap.size) ∧ (.slice A20_2 (x.f3.length) c20_2 : Value).ownBlock ≠ some (w20_3.heap.size)) ⟨hHeld, heap_alloc X3, World.alloc_heap_new _ _, World.ownsRow.alloc G3 _, NX3, own_ne G3⟩ (fun w20_4 hf => ?_)
                  obtain ⟨B4, X4, O4, G4, NX4, N14⟩ := hf
                  clear hHeld
                  have hHeld := B4
                  refine wpAnyH_ready (rs := [10]) (by kernel_rfl) (by simp) ?_
                  refine held_cons rfl (by rfl) (fun K hK => ?_) ?_
                  · refine wp_append_at (.tmp 72) (.tmp 78) 22 rfl V4.heap.size 24 (.agg #[.int .u8 0, .int .i64 0, .string ⟨#[]⟩, .slice none 0 0]) 4 56 Tryd.underlying22 info24 rfl (by decide) _ _ _ (cs.flatten) rfl G4 _ (1) _ ([Value.int .u8 z.f0, .int .i64 z.f1, .string z.f2, .slice A3 z.f3.length c3]) rfl (rfl) ((World.news_of_block O4)) ((by intro u' hu'; simp at hu'; rcases hu' with rfl | rfl | rfl | rfl <;> rfl)) (x.f3.length + (1)) (by first | rfl | exact Nat.zero_add _) (cs.flatten ++ [Value.int .u8 z.f0, .int .i64 z.f1, .string z.f2, .slice A3 z.f3.length c3]) (by first | rfl | exact List.nil_append _) (by omega) (by decide) B4.size ?_
                    intro A20_4 c20_4 w20_5 G5 hg hat
                    have B5 : Below V4.heap.size V4 w20_5 := B4.grown hg B4.size (fun q e => (World.ownsRow.lt G4 q e).1)
                    have X5 := heap_keep hg X4 NX4
                    have NX5 := at_ne hat NX4 (heap_lt X4)
                    have O5 := heap_keep hg O4 N14
                    have N15 := at_ne hat N14 (heap_lt O4)
                    clear hg hat
                    refine hK.out _ _ B5 (fun hHeld => ?_)
                    clear hK K
                    try simp only [Act.put, List.setIfInBounds_toArray, List.set_cons_zero, List.set_cons_succ]
                    refine held_take 11 (v := _) rfl (by kernel_rfl) (by kernel_rfl) (by kernel_rfl) (by rfl) (by assumption) (fun w' hSw => by
                      skip
                      go_simp
                      try with_reducible rfl) ?_
                    try simp only [Act.put, List.setIfInBounds_toArray, List.set_cons_zero, List.set_cons_succ]
                    refine wpAnyH_ready (rs := [13]) (by kernel_rfl) (by simp) ?_
                    refine held_cons rfl (by rfl) (fun K hK => ?_) ?_
                    · unfold Oper.wp
                      have hz := heap_cells X5
                      have hzf := heap_frozen X5
                      go_simp
                      refine hK.out _ _ (B5.trans (set4_below (V4.heap.size) (by first | exact Nat.le_refl _ | exact BX) _ _ _ _)) (fun hHeld => ?_)
                      clear hK K
                      try simp only [Act.put, List.setIfInBounds_toArray, List.set_cons_zero, List.set_cons_succ]
                      refine wpAnyH_done (by kernel_rfl) ?_ _
                      show R20 _ _
                      rw [HR20.out]
                      have eL : x.f3.length + (1) = (x.f3 ++ [z]).length := by simp; try omega
                      have eF : cs.flatten ++ [Value.int .u8 z.f0, .int .i64 z.f1, .string z.f2, .slice A3 z.f3.length c3] = (cs ++ [[Value.int .u8 z.f0, .int .i64 z.f1, .string z.f2, .slice A3 z.f3.length c3]]).flatten := by simp
                      have hB4 : Below V4.heap.size V4 (put4 w20_5 (V4.heap.size) (.int .u8 47) (.int .i64 0) (.string ⟨#[]⟩) (.slice A20_4 (x.f3.length + (1)) c20_4)) := B5.trans (set4_below (V4.heap.size) (by first | exact Nat.le_refl _ | exact BX) _ _ _ _)
                      have hG4 : (put4 w20_5 (V4.heap.size) (.int .u8 47) (.int .i64 0) (.string ⟨#[]⟩) (.slice A20_4 (x.f3.length + (1)) c20_4)).ownsRow V4.heap.size 24 4 (.slice A20_4 (x.f3.length + (1)) c20_4) (x.f3.length + (1)) (cs.flatten ++ [Value.int .u8 z.f0, .int .i64 z.f1, .string z.f2, .slice A3 z.f3.length c3]) := own_keep G5 (fun g e => put4_far _ _ _ (fun h => NX5 (by rw [e, h])) _ _ _ _)
                      rw [eF] at hG4
                      have hAt : At (put4 w20_5 (V4.heap.size) (.int .u8 47) (.int .i64 0) (.string ⟨#[]⟩) (.slice A20_4 (x.f3.length + (1)) c20_4)) ⟨47, 0, ⟨#[]⟩, x.f3 ++ [z]⟩ _ _ := row_tree hG4 ((fun h => (HRW.out.below ((HBV4.out.trans (h.mono HBV4.out.size)))).append (RowOf.single (HAZ.out.below ((HBV4.out.trans (h.mono HBV4.out.size)))))) hB4) eL (by omega) 47 0 ⟨#[]⟩
                      have hcl : ∀ j, (put4 w20_5 (V4.heap.size) (.int .u8 47) (.int .i64 0) (.string ⟨#[]⟩) (.slice A20_4 (x.f3.length + (1)) c20_4)).cell? ⟨V4.heap.size, j, none⟩ = #[Value.int .u8 47, .int .i64 0, .string ⟨#[]⟩, .slice A20_4 (x.f3 ++ [z]).length c20_4][j]? := fun j => by rw [← eL]; exact set4 _ _ hz _ _ _ _ j
                      unfold put4 at hcl hAt
                      exact ⟨V4.heap.size, _, _, _, _, _, _, _, rfl, hHeld, (by first | exact Nat.le_refl _ | exact BX), hcl, hAt⟩
                    exact AllReadyH.nil
                  exact AllReadyH.nil
                exact AllReadyH.nil
              refine held_cons rfl (by rfl) (fun K hK => ?_) ?_
              · unfold Oper.wp
                go_simp
                refine hK.out _ _ (hHeld.alloc hHeld.size _) (fun hHeld => ?_)
                clear hK K
                try simp only [Act.put, List.setIfInBounds_toArray, List.set_cons_zero, List.set_cons_succ]
                refine held_world (fun W' => Below V4.heap.size V4 W' ∧ W'.heap[V4.heap.size]? = some (.cells #[.int .u8 0, .int .i64 0, .string ⟨#[]⟩, .slice none 0 0] 24) ∧ W'.heap[w20_2.heap.size]? = some (.cells #[.int .u8 z.f0, .int .i64 z.f1, .string z.f2, .slice A3 z.f3.length c3] 24) ∧ W'.ownsRow V4.heap.size 24 4 (.slice (some ⟨w20_1.heap.size, 0, none⟩) 0 0) (0) ([]) ∧ (.slice (some ⟨w20_1.heap.size, 0, none⟩) 0 0 : Value).ownBlock ≠ some (V4.heap.size) ∧ (.slice (some ⟨w20_1.heap.size, 0, none⟩) 0 0 : Value).ownBlock ≠ some (w20_2.heap.size)) ⟨hHeld, heap_alloc X2, World.alloc_heap_new _ _, World.ownsRow.alloc G2 _, NX2, own_ne G2⟩ (fun w20_3 hf => ?_)
                obtain ⟨B3, X3, O3, G3, NX3, N13⟩ := hf
                clear hHeld
                have hHeld := B3
                refine wpAnyH_ready (rs := [3]) (by kernel_rfl) (by simp) ?_
                refine held_cons rfl (by rfl) (fun K hK => ?_) ?_
                · refine wp_append_at (.tmp 69) (.tmp 71) 22 rfl V4.heap.size 24 (.agg #[.int .u8 0, .int .i64 0, .string ⟨#[]⟩, .slice none 0 0]) 4 56 Tryd.underlying22 info24 rfl (by decide) _ _ _ ([]) rfl G3 _ (x.f3.length) _ (cs.flatten) rfl (NL3.out) ((NW3.out _ ((HBV4.out.trans (B3.mono HBV4.out.size))))) (NO3.out) (x.f3.length) (by first | rfl | exact Nat.zero_add _) (cs.flatten) (by first | rfl | exact List.nil_append _) (by omega) (by decide) B3.size ?_
                  intro A20_3 c20_3 w20_4 G4 hg hat
                  have B4 : Below V4.heap.size V4 w20_4 := B3.grown hg B3.size (fun q e => (World.ownsRow.lt G3 q e).1)
                  have X4 := heap_keep hg X3 NX3
                  have NX4 := at_ne hat NX3 (heap_lt X3)
                  have O4 := heap_keep hg O3 N13
                  have N14 := at_ne hat N13 (heap_lt O3)
                  clear hg hat
                  refine hK.out _ _ B4 (fun hHeld => ?_)
                  clear hK K
                  try simp only [Act.put, List.setIfInBounds_toArray, List.set_cons_zero, List.set_cons_succ]
                  refine wpAnyH_ready (rs := [10]) (by kernel_rfl) (by simp) ?_
                  refine held_cons rfl (by rfl) (fun K hK => ?_) ?_
                  · refine wp_append_at (.tmp 72) (.tmp 78) 22 rfl V4.heap.size 24 (.agg #[.int .u8 0, .int .i64 0, .string ⟨#[]⟩, .slice none 0 0]) 4 56 Tryd.underlying22 info24 rfl (by decide) _ _ _ (cs.flatten) rfl G4 _ (1) _ ([Value.int .u8 z.f0, .int .i64 z.f1, .string z.f2, .slice A3 z.f3.length c3]) rfl (rfl) ((World.news_of_block O4)) ((by intro u' hu'; simp at hu'; rcases hu' with rfl | rfl | rfl | rfl <;> rfl)) (x.f3.length + (1)) (by first | rfl | exact Nat.zero_add _) (cs.flatten ++ [Value.int .u8 z.f0, .int .i64 z.f1, .string z.f2, .slice A3 z.f3.length c3]) (by first | rfl | exact List.nil_append _) (by omega) (by decide) B4.size ?_
                    intro A20_4 c20_4 w20_5 G5 hg hat
                    have B5 : Below V4.heap.size V4 w20_5 := B4.grown hg B4.size (fun q e => (World.ownsRow.lt G4 q e).1)
                    have X5 := heap_keep hg X4 NX4
                    have NX5 := at_ne hat NX4 (heap_lt X4)
                    have O5 := heap_keep hg O4 N14
                    have N15 := at_ne hat N14 (heap_lt O4)
                    clear hg hat
                    refine hK.out _ _ B5 (fun hHeld => ?_)
                    clear hK K
                    try simp only [Act.put, List.setIfInBounds_toArray, List.set_cons_zero, List.set_cons_succ]
                    refine held_take 11 (v := _) rfl (by kernel_rfl) (by kernel_rfl) (by kernel_rfl) (by rfl) (by assumption) (fun w' hSw => by
                      skip
                      go_simp
                      try with_reducible rfl) ?_
                    try simp only [Act.put, List.setIfInBounds_toArray, List.set_cons_zero, List.set_cons_succ]
                    refine wpAnyH_ready (rs := [13]) (by kernel_rfl) (by simp) ?_
                    refine held_cons rfl (by rfl) (fun K hK => ?_) ?_
                    · unfold Oper.wp
                      have hz := heap_cells X5
                      have hzf := heap_frozen X5
                      go_simp
                      refine hK.out _ _ (B5.trans (set4_below (V4.heap.size) (by first | exact Nat.le_refl _ | exact BX) _ _ _ _)) (fun hHeld => ?_)
                      clear hK K
                      try simp only [Act.put, List.setIfInBounds_toArray, List.set_cons_zero, List.set_cons_succ]
                      refine wpAnyH_done (by kernel_rfl) ?_ _
                      show R20 _ _
                      rw [HR20.out]
                      have eL : x.f3.length + (1) = (x.f3 ++ [z]).length := by simp; try omega
                      have eF : cs.flatten ++ [Value.int .u8 z.f0, .int .i64 z.f1, .string z.f2, .slice A3 z.f3.length c3] = (cs ++ [[Value.int .u8 z.f0, .int .i64 z.f1, .string z.f2, .slice A3 z.f3.length c3]]).flatten := by simp
                      have hB4 : Below V4.heap.size V4 (put4 w20_5 (V4.heap.size) (.int .u8 47) (.int .i64 0) (.string ⟨#[]⟩) (.slice A20_4 (x.f3.length + (1)) c20_4)) := B5.trans (set4_below (V4.heap.size) (by first | exact Nat.le_refl _ | exact BX) _ _ _ _)
                      have hG4 : (put4 w20_5 (V4.heap.size) (.int .u8 47) (.int .i64 0) (.string ⟨#[]⟩) (.slice A20_4 (x.f3.length + (1)) c20_4)).ownsRow V4.heap.size 24 4 (.slice A20_4 (x.f3.length + (1)) c20_4) (x.f3.length + (1)) (cs.flatten ++ [Value.int .u8 z.f0, .int .i64 z.f1, .string z.f2, .slice A3 z.f3.length c3]) := own_keep G5 (fun g e => put4_far _ _ _ (fun h => NX5 (by rw [e, h])) _ _ _ _)
                      rw [eF] at hG4
                      have hAt : At (put4 w20_5 (V4.heap.size) (.int .u8 47) (.int .i64 0) (.string ⟨#[]⟩) (.slice A20_4 (x.f3.length + (1)) c20_4)) ⟨47, 0, ⟨#[]⟩, x.f3 ++ [z]⟩ _ _ := row_tree hG4 ((fun h => (HRW.out.below ((HBV4.out.trans (h.mono HBV4.out.size)))).append (RowOf.single (HAZ.out.below ((HBV4.out.trans (h.mono HBV4.out.size)))))) hB4) eL (by omega) 47 0 ⟨#[]⟩
                      have hcl : ∀ j, (put4 w20_5 (V4.heap.size) (.int .u8 47) (.int .i64 0) (.string ⟨#[]⟩) (.slice A20_4 (x.f3.length + (1)) c20_4)).cell? ⟨V4.heap.size, j, none⟩ = #[Value.int .u8 47, .int .i64 0, .string ⟨#[]⟩, .slice A20_4 (x.f3 ++ [z]).length c20_4][j]? := fun j => by rw [← eL]; exact set4 _ _ hz _ _ _ _ j
                      unfold put4 at hcl hAt
                      exact ⟨V4.heap.size, _, _, _, _, _, _, _, rfl, hHeld, (by first | exact Nat.le_refl _ | exact BX), hcl, hAt⟩
                    exact AllReadyH.nil
                  exact AllReadyH.nil
                exact AllReadyH.nil
              exact AllReadyH.nil
            refine held_cons rfl (by rfl) (fun K hK => ?_) ?_
            · unfold Oper.wp
              go_simp
              refine hK.out _ _ (hHeld.alloc hHeld.size _) (fun hHeld => ?_)
              clear hK K
              try simp only [Act.put, List.setIfInBounds_toArray, List.set_cons_zero, List.set_cons_succ]
              refine held_world (fun W' => Below V4.heap.size V4 W' ∧ W'.heap[V4.heap.size]? = some (.cells #[.int .u8 0, .int .i64 0, .string ⟨#[]⟩, .slice none 0 0] 24) ∧ W'.heap[w20_1.heap.size]? = some (.cells #[.int .u8 z.f0, .int .i64 z.f1, .string z.f2, .slice A3 z.f3.length c3] 24)) ⟨hHeld, heap_alloc X1, World.alloc_heap_new _ _⟩ (fun w20_2 hf => ?_)
              obtain ⟨B2, X2, O2⟩ := hf
              clear hHeld
              have hHeld := B2
              refine wpAnyH_ready (rs := [0]) (by kernel_rfl) (by simp) ?_
              refine held_cons rfl (by rfl) (fun K hK => ?_) ?_
              · unfold Oper.wp
                go_simp
                refine hK.out _ _ (hHeld.alloc hHeld.size _) (fun hHeld => ?_)
                clear hK K
                try simp only [Act.put, List.setIfInBounds_toArray, List.set_cons_zero, List.set_cons_succ]
                refine held_world (fun W' => Below V4.heap.size V4 W' ∧ W'.heap[V4.heap.size]? = some (.cells #[.int .u8 0, .int .i64 0, .string ⟨#[]⟩, .slice none 0 0] 24) ∧ W'.heap[w20_1.heap.size]? = some (.cells #[.int .u8 z.f0, .int .i64 z.f1, .string z.f2, .slice A3 z.f3.length c3] 24) ∧ W'.ownsRow V4.heap.size 24 4 (.slice (some ⟨w20_2.heap.size, 0, none⟩) 0 0) (0) ([]) ∧ (.slice (some ⟨w20_2.heap.size, 0, none⟩) 0 0 : Value).ownBlock ≠ some (V4.heap.size) ∧ (.slice (some ⟨w20_2.heap.size, 0, none⟩) 0 0 : Value).ownBlock ≠ some (w20_1.heap.size)) ⟨hHeld, heap_alloc X2, heap_alloc O2, World.ownsRow_made _ #[] 0 B2.size (Nat.zero_le _) rfl, (fun e => by have := heap_lt X2; simp [Value.ownBlock] at e; (try simp at this); omega), (fun e => by have := heap_lt O2; simp [Value.ownBlock] at e; (try simp at this); omega)⟩ (fun w20_3 hf => ?_)
                obtain ⟨B3, X3, O3, G3, NX3, N13⟩ := hf
                clear hHeld
                have hHeld := B3
                refine wpAnyH_ready (rs := [3]) (by kernel_rfl) (by simp) ?_
                refine held_cons rfl (by rfl) (fun K hK => ?_) ?_
                · refine wp_append_at (.tmp 69) (.tmp 71) 22 rfl V4.heap.size 24 (.agg #[.int .u8 0, .int .i64 0, .string ⟨#[]⟩, .slice none 0 0]) 4 56 Tryd.underlying22 info24 rfl (by decide) _ _ _ ([]) rfl G3 _ (x.f3.length) _ (cs.flatten) rfl (NL3.out) ((NW3.out _ ((HBV4.out.trans (B3.mono HBV4.out.size))))) (NO3.out) (x.f3.length) (by first | rfl | exact Nat.zero_add _) (cs.flatten) (by first | rfl | exact List.nil_append _) (by omega) (by decide) B3.size ?_
                  intro A20_3 c20_3 w20_4 G4 hg hat
                  have B4 : Below V4.heap.size V4 w20_4 := B3.grown hg B3.size (fun q e => (World.ownsRow.lt G3 q e).1)
                  have X4 := heap_keep hg X3 NX3
                  have NX4 := at_ne hat NX3 (heap_lt X3)
                  have O4 := heap_keep hg O3 N13
                  have N14 := at_ne hat N13 (heap_lt O3)
                  clear hg hat
                  refine hK.out _ _ B4 (fun hHeld => ?_)
                  clear hK K
                  try simp only [Act.put, List.setIfInBounds_toArray, List.set_cons_zero, List.set_cons_succ]
                  refine wpAnyH_ready (rs := [10]) (by kernel_rfl) (by simp) ?_
                  refine held_cons rfl (by rfl) (fun K hK => ?_) ?_
                  · refine wp_append_at (.tmp 72) (.tmp 78) 22 rfl V4.heap.size 24 (.agg #[.int .u8 0, .int .i64 0, .string ⟨#[]⟩, .slice none 0 0]) 4 56 Tryd.underlying22 info24 rfl (by decide) _ _ _ (cs.flatten) rfl G4 _ (1) _ ([Value.int .u8 z.f0, .int .i64 z.f1, .string z.f2, .slice A3 z.f3.length c3]) rfl (rfl) ((World.news_of_block O4)) ((by intro u' hu'; simp at hu'; rcases hu' with rfl | rfl | rfl | rfl <;> rfl)) (x.f3.length + (1)) (by first | rfl | exact Nat.zero_add _) (cs.flatten ++ [Value.int .u8 z.f0, .int .i64 z.f1, .string z.f2, .slice A3 z.f3.length c3]) (by first | rfl | exact List.nil_append _) (by omega) (by decide) B4.size ?_
                    intro A20_4 c20_4 w20_5 G5 hg hat
                    have B5 : Below V4.heap.size V4 w20_5 := B4.grown hg B4.size (fun q e => (World.ownsRow.lt G4 q e).1)
                    have X5 := heap_keep hg X4 NX4
                    have NX5 := at_ne hat NX4 (heap_lt X4)
                    have O5 := heap_keep hg O4 N14
                    have N15 := at_ne hat N14 (heap_lt O4)
                    clear hg hat
                    refine hK.out _ _ B5 (fun hHeld => ?_)
                    clear hK K
                    try simp only [Act.put, List.setIfInBounds_toArray, List.set_cons_zero, List.set_cons_succ]
                    refine held_take 11 (v := _) rfl (by kernel_rfl) (by kernel_rfl) (by kernel_rfl) (by rfl) (by assumption) (fun w' hSw => by
                      skip
                      go_simp
                      try with_reducible rfl) ?_
                    try simp only [Act.put, List.setIfInBounds_toArray, List.set_cons_zero, List.set_cons_succ]
                    refine wpAnyH_ready (rs := [13]) (by kernel_rfl) (by simp) ?_
                    refine held_cons rfl (by rfl) (fun K hK => ?_) ?_
                    · unfold Oper.wp
                      have hz := heap_cells X5
                      have hzf := heap_frozen X5
                      go_simp
                      refine hK.out _ _ (B5.trans (set4_below (V4.heap.size) (by first | exact Nat.le_refl _ | exact BX) _ _ _ _)) (fun hHeld => ?_)
                      clear hK K
                      try simp only [Act.put, List.setIfInBounds_toArray, List.set_cons_zero, List.set_cons_succ]
                      refine wpAnyH_done (by kernel_rfl) ?_ _
                      show R20 _ _
                      rw [HR20.out]
                      have eL : x.f3.length + (1) = (x.f3 ++ [z]).length := by simp; try omega
                      have eF : cs.flatten ++ [Value.int .u8 z.f0, .int .i64 z.f1, .string z.f2, .slice A3 z.f3.length c3] = (cs ++ [[Value.int .u8 z.f0, .int .i64 z.f1, .string z.f2, .slice A3 z.f3.length c3]]).flatten := by simp
                      have hB4 : Below V4.heap.size V4 (put4 w20_5 (V4.heap.size) (.int .u8 47) (.int .i64 0) (.string ⟨#[]⟩) (.slice A20_4 (x.f3.length + (1)) c20_4)) := B5.trans (set4_below (V4.heap.size) (by first | exact Nat.le_refl _ | exact BX) _ _ _ _)
                      have hG4 : (put4 w20_5 (V4.heap.size) (.int .u8 47) (.int .i64 0) (.string ⟨#[]⟩) (.slice A20_4 (x.f3.length + (1)) c20_4)).ownsRow V4.heap.size 24 4 (.slice A20_4 (x.f3.length + (1)) c20_4) (x.f3.length + (1)) (cs.flatten ++ [Value.int .u8 z.f0, .int .i64 z.f1, .string z.f2, .slice A3 z.f3.length c3]) := own_keep G5 (fun g e => put4_far _ _ _ (fun h => NX5 (by rw [e, h])) _ _ _ _)
                      rw [eF] at hG4
                      have hAt : At (put4 w20_5 (V4.heap.size) (.int .u8 47) (.int .i64 0) (.string ⟨#[]⟩) (.slice A20_4 (x.f3.length + (1)) c20_4)) ⟨47, 0, ⟨#[]⟩, x.f3 ++ [z]⟩ _ _ := row_tree hG4 ((fun h => (HRW.out.below ((HBV4.out.trans (h.mono HBV4.out.size)))).append (RowOf.single (HAZ.out.below ((HBV4.out.trans (h.mono HBV4.out.size)))))) hB4) eL (by omega) 47 0 ⟨#[]⟩
                      have hcl : ∀ j, (put4 w20_5 (V4.heap.size) (.int .u8 47) (.int .i64 0) (.string ⟨#[]⟩) (.slice A20_4 (x.f3.length + (1)) c20_4)).cell? ⟨V4.heap.size, j, none⟩ = #[Value.int .u8 47, .int .i64 0, .string ⟨#[]⟩, .slice A20_4 (x.f3 ++ [z]).length c20_4][j]? := fun j => by rw [← eL]; exact set4 _ _ hz _ _ _ _ j
                      unfold put4 at hcl hAt
                      exact ⟨V4.heap.size, _, _, _, _, _, _, _, rfl, hHeld, (by first | exact Nat.le_refl _ | exact BX), hcl, hAt⟩
                    exact AllReadyH.nil
                  exact AllReadyH.nil
                exact AllReadyH.nil
              exact AllReadyH.nil
            exact AllReadyH.nil
          exact AllReadyH.nil
        case next =>
          intro a V5 h
          rw [HR20.out] at h
          obtain ⟨bb2, A2, c2, t69, t72, t78, t79, t80, rfl, hBV5, hbb2, hcl2, hAt2⟩ := h
          clear HR20
          have HBBV5 := Aside0.mk hBV5
          have HBV5 : Aside0 (Below w.heap.size w V5) := ⟨HBV4.out.trans (hBV5.mono HBV4.out.size)⟩
          have HCL2 := Aside0.mk hcl2
          have HAT2 := Aside0.mk hAt2
          have hlt2 : bb2 < V5.heap.size := World.block_lt_of_cell? _ ⟨bb2, 0, none⟩ (hcl2 0)
          clear hBV5 hcl2 hAt2
          have HN5 : Aside0 (∀ w', Below V5.heap.size V5 w' → ∀ j, w'.cell? ⟨w.heap.size, j, none⟩ = #[Value.int .u8 x.f0, .int .i64 x.f1, .string x.f2, .slice (some ad) x.f3.length c][j]?) := ⟨fun w' h j => HN4.out w' (HBBV5.out.trans (h.mono HBBV5.out.size)) j⟩
          gi_wp2
          obtain ⟨R21, HR21⟩ : ∃ R : Act → World → Prop, Aside0 (R = fun a W' => ∃ (bb : Nat) (A' : Option Addr) (c' : Nat) (t81 t84 t86 t87 t88 : Value), a = { tmps := #[nodeV x (some ad) c, .int .u8 u, .pointer (some ⟨w.heap.size, 0, none⟩), undef, .pointer (some ⟨w.heap.size + 1, 0, none⟩), undef, undef, undef, undef, undef, .int .i64 k, .pointer (some ⟨bb1, 0, none⟩), .pointer (some ⟨bb2, 0, none⟩), .pointer (some ⟨bb, 0, none⟩), .bool true, .bool false, .agg #[.int .u8 x.f0, .int .i64 x.f1, .string x.f2, .slice (some ad) x.f3.length c], .int .i64 0, .bool false, .bool false, .agg #[.int .u8 x.f0, .int .i64 x.f1, .string x.f2, .slice (some ad) x.f3.length c], .bool true, .bool false, .bool false, .agg #[.int .u8 x.f0, .int .i64 x.f1, .string x.f2, .slice (some ad) x.f3.length c], .func (.func 89) #[] #[.pointer (some ⟨S, 0, none⟩)], undef, undef, undef, undef, undef, undef, undef, undef, undef, undef, undef, undef, undef, undef, undef, undef, undef, undef, undef, undef, .pointer (some ⟨w.heap.size, 3, none⟩), .slice (some ad) x.f3.length c, .int .i64 x.f3.length, .bool false, .int .u8 u, .int .i64 u, .pointer (some ⟨w.heap.size, 3, none⟩), .slice (some ad) x.f3.length c, .int .i64 x.f3.length, .int .i64 k, t56, .pointer (some ⟨w.heap.size, 3, none⟩), .slice (some ad) x.f3.length c, .int .i64 k, .slice (some ad) k c, t61, .pointer (some ⟨w.heap.size, 3, none⟩), .slice (some ad) x.f3.length c, .int .i64 k, .int .i64 (k + 1), .slice (some ad2) (x.f3.length - (k + 1)) (c - (k + 1)), t67, t68, t69, .pointer (some ⟨w.heap.size, 3, none⟩), .slice (some ad) x.f3.length c, t72, .pointer (some ⟨w.heap.size, 3, none⟩), .slice (some ad) x.f3.length c, .int .i64 k, .pointer (some (ad.add (k * 4))), .agg #[.int .u8 z.f0, .int .i64 z.f1, .string z.f2, .slice A3 z.f3.length c3], t78, t79, t80, t81, .pointer (some ⟨w.heap.size, 3, none⟩), .slice (some ad) x.f3.length c, t84, .agg #[.int .u8 x.f0, .int .i64 x.f1, .string x.f2, .slice (some ad) x.f3.length c], t86, t87, t88, undef, undef, undef, undef, undef, undef, undef, undef, undef, undef, undef], defers := [{ target := .collected D, args := #[] }] } ∧ Below V5.heap.size V5 W' ∧ V5.heap.size ≤ bb ∧ (∀ j, W'.cell? ⟨bb, j, none⟩ = #[Value.int .u8 47, .int .i64 0, .string ⟨#[]⟩, .slice A' (x.f3 ++ [x]).length c'][j]?) ∧ At W' ⟨47, 0, ⟨#[]⟩, x.f3 ++ [x]⟩ A' c') := ⟨_, ⟨rfl⟩⟩
          refine wpIn_wide.2 ?_
          refine region_held_cut R21 (fun w' => Below V5.heap.size V5 w') (by kernel_rfl) (Below.refl _ V5).drew ?next (fun hHeld => ?walk)
          case walk =>
            have B0 := hHeld
            refine held_take 1 (v := _) rfl (by kernel_rfl) (by kernel_rfl) (by kernel_rfl) (by rfl) (by assumption) (fun w' hSw => by
              skip
              go_simp
              try with_reducible rfl) ?_
            try simp only [Act.put, List.setIfInBounds_toArray, List.set_cons_zero, List.set_cons_succ]
            refine held_take 2 (v := _) rfl (by kernel_rfl) (by kernel_rfl) (by kernel_rfl) (by rfl) (by assumption) (fun w' hSw => by
              have hn3 := HN5.out w' hSw 3
              simp at hn3
              go_simp
              try with_reducible rfl) ?_
            try simp only [Act.put, List.setIfInBounds_toArray, List.set_cons_zero, List.set_cons_succ]
            refine held_take 4 (v := _) rfl (by kernel_rfl) (by kernel_rfl) (by kernel_rfl) (by rfl) (by assumption) (fun w' hSw => by
              have hn := HN5.out w' hSw
              go_simp
              try with_reducible rfl) ?_
            try simp only [Act.put, List.setIfInBounds_toArray, List.set_cons_zero, List.set_cons_succ]
            refine wpAnyH_ready (rs := [0, 5, 8]) (by kernel_rfl) (by simp) ?_
            refine held_cons rfl (by rfl) (fun K hK => ?_) ?_
            · unfold Oper.wp
              go_simp
              refine hK.out _ _ (hHeld.alloc hHeld.size _) (fun hHeld => ?_)
              clear hK K
              try simp only [Act.put, List.setIfInBounds_toArray, List.set_cons_zero, List.set_cons_succ]
              refine held_world (fun W' => Below V5.heap.size V5 W' ∧ W'.ownsRow V5.heap.size 24 4 (.slice (some ⟨V5.heap.size, 0, none⟩) 0 0) (0) ([])) ⟨hHeld, World.ownsRow_made _ #[] 0 B0.size (Nat.zero_le _) rfl⟩ (fun w21_1 hf => ?_)
              obtain ⟨B1, G1⟩ := hf
              clear hHeld
              have hHeld := B1
              refine wpAnyH_ready (rs := [3, 5, 8]) (by kernel_rfl) (by simp) ?_
              refine held_cons rfl (by rfl) (fun K hK => ?_) ?_
              · refine wp_append_at (.tmp 81) (.tmp 83) 22 rfl V5.heap.size 24 (.agg #[.int .u8 0, .int .i64 0, .string ⟨#[]⟩, .slice none 0 0]) 4 56 Tryd.underlying22 info24 rfl (by decide) _ _ _ ([]) rfl G1 _ (x.f3.length) _ (cs.flatten) rfl (NL3.out) ((NW3.out _ ((HBV5.out.trans (B1.mono HBV5.out.size))))) (NO3.out) (x.f3.length) (by first | rfl | exact Nat.zero_add _) (cs.flatten) (by first | rfl | exact List.nil_append _) (by omega) (by decide) B1.size ?_
                intro A21_1 c21_1 w21_2 G2 hg hat
                have B2 : Below V5.heap.size V5 w21_2 := B1.grown hg B1.size (fun q e => (World.ownsRow.lt G1 q e).1)
                clear hg hat
                refine hK.out _ _ B2 (fun hHeld => ?_)
                clear hK K
                try simp only [Act.put, List.setIfInBounds_toArray, List.set_cons_zero, List.set_cons_succ]
                refine wpAnyH_ready (rs := [5, 8]) (by kernel_rfl) (by simp) ?_
                refine held_cons rfl (by rfl) (fun K hK => ?_) ?_
                · unfold Oper.wp
                  go_simp
                  refine hK.out _ _ (hHeld.alloc hHeld.size _) (fun hHeld => ?_)
                  clear hK K
                  try simp only [Act.put, List.setIfInBounds_toArray, List.set_cons_zero, List.set_cons_succ]
                  refine held_world (fun W' => Below V5.heap.size V5 W' ∧ W'.heap[w21_2.heap.size]? = some (.cells #[.int .u8 x.f0, .int .i64 x.f1, .string x.f2, .slice (some ad) x.f3.length c] 24) ∧ W'.ownsRow V5.heap.size 24 4 (.slice A21_1 (x.f3.length) c21_1) (x.f3.length) (cs.flatten) ∧ (.slice A21_1 (x.f3.length) c21_1 : Value).ownBlock ≠ some (w21_2.heap.size)) ⟨hHeld, World.alloc_heap_new _ _, World.ownsRow.alloc G2 _, own_ne G2⟩ (fun w21_3 hf => ?_)
                  obtain ⟨B3, O3, G3, N13⟩ := hf
                  clear hHeld
                  have hHeld := B3
                  refine wpAnyH_ready (rs := [6, 8]) (by kernel_rfl) (by simp) ?_
                  refine held_cons rfl (by rfl) (fun K hK => ?_) ?_
                  · refine wp_append_at (.tmp 84) (.tmp 86) 22 rfl V5.heap.size 24 (.agg #[.int .u8 0, .int .i64 0, .string ⟨#[]⟩, .slice none 0 0]) 4 56 Tryd.underlying22 info24 rfl (by decide) _ _ _ (cs.flatten) rfl G3 _ (1) _ ([Value.int .u8 x.f0, .int .i64 x.f1, .string x.f2, .slice (some ad) x.f3.length c]) rfl (rfl) ((World.news_of_block O3)) ((by intro u' hu'; simp at hu'; rcases hu' with rfl | rfl | rfl | rfl <;> rfl)) (x.f3.length + (1)) (by first | rfl | exact Nat.zero_add _) (cs.flatten ++ [Value.int .u8 x.f0, .int .i64 x.f1, .string x.f2, .slice (some ad) x.f3.length c]) (by first | rfl | exact List.nil_append _) (by omega) (by decide) B3.size ?_
                    intro A21_3 c21_3 w21_4 G4 hg hat
                    have B4 : Below V5.heap.size V5 w21_4 := B3.grown hg B3.size (fun q e => (World.ownsRow.lt G3 q e).1)
                    have O4 := heap_keep hg O3 N13
                    have N14 := at_ne hat N13 (heap_lt O3)
                    clear hg hat
                    refine hK.out _ _ B4 (fun hHeld => ?_)
                    clear hK K
                    try simp only [Act.put, List.setIfInBounds_toArray, List.set_cons_zero, List.set_cons_succ]
                    refine held_take 7 (v := _) rfl (by kernel_rfl) (by kernel_rfl) (by kernel_rfl) (by rfl) (by assumption) (fun w' hSw => by
                      skip
                      go_simp
                      try with_reducible rfl) ?_
                    try simp only [Act.put, List.setIfInBounds_toArray, List.set_cons_zero, List.set_cons_succ]
                    refine wpAnyH_ready (rs := [8]) (by kernel_rfl) (by simp) ?_
                    refine held_cons rfl (by rfl) (fun K hK => ?_) ?_
                    · unfold Oper.wp
                      go_simp
                      refine hK.out _ _ (hHeld.alloc hHeld.size _) (fun hHeld => ?_)
                      clear hK K
                      try simp only [Act.put, List.setIfInBounds_toArray, List.set_cons_zero, List.set_cons_succ]
                      have BX := B4.size
                      refine held_world (fun W' => Below V5.heap.size V5 W' ∧ W'.heap[w21_4.heap.size]? = some (.cells #[.int .u8 0, .int .i64 0, .string ⟨#[]⟩, .slice none 0 0] 24) ∧ W'.heap[w21_2.heap.size]? = some (.cells #[.int .u8 x.f0, .int .i64 x.f1, .string x.f2, .slice (some ad) x.f3.length c] 24) ∧ W'.ownsRow V5.heap.size 24 4 (.slice A21_3 (x.f3.length + (1)) c21_3) (x.f3.length + (1)) (cs.flatten ++ [Value.int .u8 x.f0, .int .i64 x.f1, .string x.f2, .slice (some ad) x.f3.length c]) ∧ (.slice A21_3 (x.f3.length + (1)) c21_3 : Value).ownBlock ≠ some (w21_4.heap.size) ∧ (.slice A21_3 (x.f3.length + (1)) c21_3 : Value).ownBlock ≠ some (w21_2.heap.size)) ⟨hHeld, World.alloc_heap_new _ _, heap_alloc O4, World.ownsRow.alloc G4 _, own_ne G4, N14⟩ (fun w21_5 hf => ?_)
                      obtain ⟨B5, X5, O5, G5, NX5, N15⟩ := hf
                      clear hHeld
                      have hHeld := B5
                      refine wpAnyH_ready (rs := [9]) (by kernel_rfl) (by simp) ?_
                      refine held_cons rfl (by rfl) (fun K hK => ?_) ?_
                      · unfold Oper.wp
                        have hz := heap_cells X5
                        have hzf := heap_frozen X5
                        go_simp
                        refine hK.out _ _ (B5.trans (set4_below (w21_4.heap.size) (by first | exact Nat.le_refl _ | exact BX) _ _ _ _)) (fun hHeld => ?_)
                        clear hK K
                        try simp only [Act.put, List.setIfInBounds_toArray, List.set_cons_zero, List.set_cons_succ]
                        refine wpAnyH_done (by kernel_rfl) ?_ _
                        show R21 _ _
                        rw [HR21.out]
                        have eL : x.f3.length + (1) = (x.f3 ++ [x]).length := by simp; try omega
                        have eF : cs.flatten ++ [Value.int .u8 x.f0, .int .i64 x.f1, .string x.f2, .slice (some ad) x.f3.length c] = (cs ++ [[Value.int .u8 x.f0, .int .i64 x.f1, .string x.f2, .slice (some ad) x.f3.length c]]).flatten := by simp
                        have hB4 : Below V5.heap.size V5 (put4 w21_5 (w21_4.heap.size) (.int .u8 47) (.int .i64 0) (.string ⟨#[]⟩) (.slice A21_3 (x.f3.length + (1)) c21_3)) := B5.trans (set4_below (w21_4.heap.size) (by first | exact Nat.le_refl _ | exact BX) _ _ _ _)
                        have hG4 : (put4 w21_5 (w21_4.heap.size) (.int .u8 47) (.int .i64 0) (.string ⟨#[]⟩) (.slice A21_3 (x.f3.length + (1)) c21_3)).ownsRow V5.heap.size 24 4 (.slice A21_3 (x.f3.length + (1)) c21_3) (x.f3.length + (1)) (cs.flatten ++ [Value.int .u8 x.f0, .int .i64 x.f1, .string x.f2, .slice (some ad) x.f3.length c]) := own_keep G5 (fun g e => put4_far _ _ _ (fun h => NX5 (by rw [e, h])) _ _ _ _)
                        rw [eF] at hG4
                        have hAt : At (put4 w21_5 (w21_4.heap.size) (.int .u8 47) (.int .i64 0) (.string ⟨#[]⟩) (.slice A21_3 (x.f3.length + (1)) c21_3)) ⟨47, 0, ⟨#[]⟩, x.f3 ++ [x]⟩ _ _ := row_tree hG4 ((fun h => (HRW.out.below ((HBV5.out.trans (h.mono HBV5.out.size)))).append (RowOf.single (HA.out.below ((HBV5.out.trans (h.mono HBV5.out.size)))))) hB4) eL (by omega) 47 0 ⟨#[]⟩
                        have hcl : ∀ j, (put4 w21_5 (w21_4.heap.size) (.int .u8 47) (.int .i64 0) (.string ⟨#[]⟩) (.slice A21_3 (x.f3.length + (1)) c21_3)).cell? ⟨w21_4.heap.size, j, none⟩ = #[Value.int .u8 47, .int .i64 0, .string ⟨#[]⟩, .slice A21_3 (x.f3 ++ [x]).length c21_3][j]? := fun j => by rw [← eL]; exact set4 _ _ hz _ _ _ _ j
                        unfold put4 at hcl hAt
                        exact ⟨w21_4.heap.size, _, _, _, _, _, _, _, rfl, hHeld, (by first | exact Nat.le_refl _ | exact BX), hcl, hAt⟩
                      exact AllReadyH.nil
                    exact AllReadyH.nil
                  refine held_cons rfl (by rfl) (fun K hK => ?_) ?_
                  · unfold Oper.wp
                    go_simp
                    refine hK.out _ _ (hHeld.alloc hHeld.size _) (fun hHeld => ?_)
                    clear hK K
                    try simp only [Act.put, List.setIfInBounds_toArray, List.set_cons_zero, List.set_cons_succ]
                    have BX := B3.size
                    refine held_world (fun W' => Below V5.heap.size V5 W' ∧ W'.heap[w21_3.heap.size]? = some (.cells #[.int .u8 0, .int .i64 0, .string ⟨#[]⟩, .slice none 0 0] 24) ∧ W'.heap[w21_2.heap.size]? = some (.cells #[.int .u8 x.f0, .int .i64 x.f1, .string x.f2, .slice (some ad) x.f3.length c] 24) ∧ W'.ownsRow V5.heap.size 24 4 (.slice A21_1 (x.f3.length) c21_1) (x.f3.length) (cs.flatten) ∧ (.slice A21_1 (x.f3.length) c21_1 : Value).ownBlock ≠ some (w21_3.heap.size) ∧ (.slice A21_1 (x.f3.length) c21_1 : Value).ownBlock ≠ some (w21_2.heap.size)) ⟨hHeld, World.alloc_heap_new _ _, heap_alloc O3, World.ownsRow.alloc G3 _, own_ne G3, N13⟩ (fun w21_4 hf => ?_)
                    obtain ⟨B4, X4, O4, G4, NX4, N14⟩ := hf
                    clear hHeld
                    have hHeld := B4
                    refine wpAnyH_ready (rs := [6]) (by kernel_rfl) (by simp) ?_
                    refine held_cons rfl (by rfl) (fun K hK => ?_) ?_
                    · refine wp_append_at (.tmp 84) (.tmp 86) 22 rfl V5.heap.size 24 (.agg #[.int .u8 0, .int .i64 0, .string ⟨#[]⟩, .slice none 0 0]) 4 56 Tryd.underlying22 info24 rfl (by decide) _ _ _ (cs.flatten) rfl G4 _ (1) _ ([Value.int .u8 x.f0, .int .i64 x.f1, .string x.f2, .slice (some ad) x.f3.length c]) rfl (rfl) ((World.news_of_block O4)) ((by intro u' hu'; simp at hu'; rcases hu' with rfl | rfl | rfl | rfl <;> rfl)) (x.f3.length + (1)) (by first | rfl | exact Nat.zero_add _) (cs.flatten ++ [Value.int .u8 x.f0, .int .i64 x.f1, .string x.f2, .slice (some ad) x.f3.length c]) (by first | rfl | exact List.nil_append _) (by omega) (by decide) B4.size ?_
                      intro A21_4 c21_4 w21_5 G5 hg hat
                      have B5 : Below V5.heap.size V5 w21_5 := B4.grown hg B4.size (fun q e => (World.ownsRow.lt G4 q e).1)
                      have X5 := heap_keep hg X4 NX4
                      have NX5 := at_ne hat NX4 (heap_lt X4)
                      have O5 := heap_keep hg O4 N14
                      have N15 := at_ne hat N14 (heap_lt O4)
                      clear hg hat
                      refine hK.out _ _ B5 (fun hHeld => ?_)
                      clear hK K
                      try simp only [Act.put, List.setIfInBounds_toArray, List.set_cons_zero, List.set_cons_succ]
                      refine held_take 7 (v := _) rfl (by kernel_rfl) (by kernel_rfl) (by kernel_rfl) (by rfl) (by assumption) (fun w' hSw => by
                        skip
                        go_simp
                        try with_reducible rfl) ?_
                      try simp only [Act.put, List.setIfInBounds_toArray, List.set_cons_zero, List.set_cons_succ]
                      refine wpAnyH_ready (rs := [9]) (by kernel_rfl) (by simp) ?_
                      refine held_cons rfl (by rfl) (fun K hK => ?_) ?_
                      · unfold Oper.wp
                        have hz := heap_cells X5
                        have hzf := heap_frozen X5
                        go_simp
                        refine hK.out _ _ (B5.trans (set4_below (w21_3.heap.size) (by first | exact Nat.le_refl _ | exact BX) _ _ _ _)) (fun hHeld => ?_)
                        clear hK K
                        try simp only [Act.put, List.setIfInBounds_toArray, List.set_cons_zero, List.set_cons_succ]
                        refine wpAnyH_done (by kernel_rfl) ?_ _
                        show R21 _ _
                        rw [HR21.out]
                        have eL : x.f3.length + (1) = (x.f3 ++ [x]).length := by simp; try omega
                        have eF : cs.flatten ++ [Value.int .u8 x.f0, .int .i64 x.f1, .string x.f2, .slice (some ad) x.f3.length c] = (cs ++ [[Value.int .u8 x.f0, .int .i64 x.f1, .string x.f2, .slice (some ad) x.f3.length c]]).flatten := by simp
                        have hB4 : Below V5.heap.size V5 (put4 w21_5 (w21_3.heap.size) (.int .u8 47) (.int .i64 0) (.string ⟨#[]⟩) (.slice A21_4 (x.f3.length + (1)) c21_4)) := B5.trans (set4_below (w21_3.heap.size) (by first | exact Nat.le_refl _ | exact BX) _ _ _ _)
                        have hG4 : (put4 w21_5 (w21_3.heap.size) (.int .u8 47) (.int .i64 0) (.string ⟨#[]⟩) (.slice A21_4 (x.f3.length + (1)) c21_4)).ownsRow V5.heap.size 24 4 (.slice A21_4 (x.f3.length + (1)) c21_4) (x.f3.length + (1)) (cs.flatten ++ [Value.int .u8 x.f0, .int .i64 x.f1, .string x.f2, .slice (some ad) x.f3.length c]) := own_keep G5 (fun g e => put4_far _ _ _ (fun h => NX5 (by rw [e, h])) _ _ _ _)
                        rw [eF] at hG4
                        have hAt : At (put4 w21_5 (w21_3.heap.size) (.int .u8 47) (.int .i64 0) (.string ⟨#[]⟩) (.slice A21_4 (x.f3.length + (1)) c21_4)) ⟨47, 0, ⟨#[]⟩, x.f3 ++ [x]⟩ _ _ := row_tree hG4 ((fun h => (HRW.out.below ((HBV5.out.trans (h.mono HBV5.out.size)))).append (RowOf.single (HA.out.below ((HBV5.out.trans (h.mono HBV5.out.size)))))) hB4) eL (by omega) 47 0 ⟨#[]⟩
                        have hcl : ∀ j, (put4 w21_5 (w21_3.heap.size) (.int .u8 47) (.int .i64 0) (.string ⟨#[]⟩) (.slice A21_4 (x.f3.length + (1)) c21_4)).cell? ⟨w21_3.heap.size, j, none⟩ = #[Value.int .u8 47, .int .i64 0, .string ⟨#[]⟩, .slice A21_4 (x.f3 ++ [x]).length c21_4][j]? := fun j => by rw [← eL]; exact set4 _ _ hz _ _ _ _ j
                        unfold put4 at hcl hAt
                        exact ⟨w21_3.heap.size, _, _, _, _, _, _, _, rfl, hHeld, (by first | exact Nat.le_refl _ | exact BX), hcl, hAt⟩
                      exact AllReadyH.nil
                    exact AllReadyH.nil
                  exact AllReadyH.nil
                refine held_cons rfl (by rfl) (fun K hK => ?_) ?_
                · unfold Oper.wp
                  go_simp
                  refine hK.out _ _ (hHeld.alloc hHeld.size _) (fun hHeld => ?_)
                  clear hK K
                  try simp only [Act.put, List.setIfInBounds_toArray, List.set_cons_zero, List.set_cons_succ]
                  have BX := B2.size
                  refine held_world (fun W' => Below V5.heap.size V5 W' ∧ W'.heap[w21_2.heap.size]? = some (.cells #[.int .u8 0, .int .i64 0, .string ⟨#[]⟩, .slice none 0 0] 24) ∧ W'.ownsRow V5.heap.size 24 4 (.slice A21_1 (x.f3.length) c21_1) (x.f3.length) (cs.flatten) ∧ (.slice A21_1 (x.f3.length) c21_1 : Value).ownBlock ≠ some (w21_2.heap.size)) ⟨hHeld, World.alloc_heap_new _ _, World.ownsRow.alloc G2 _, own_ne G2⟩ (fun w21_3 hf => ?_)
                  obtain ⟨B3, X3, G3, NX3⟩ := hf
                  clear hHeld
                  have hHeld := B3
                  refine wpAnyH_ready (rs := [5]) (by kernel_rfl) (by simp) ?_
                  refine held_cons rfl (by rfl) (fun K hK => ?_) ?_
                  · unfold Oper.wp
                    go_simp
                    refine hK.out _ _ (hHeld.alloc hHeld.size _) (fun hHeld => ?_)
                    clear hK K
                    try simp only [Act.put, List.setIfInBounds_toArray, List.set_cons_zero, List.set_cons_succ]
                    refine held_world (fun W' => Below V5.heap.size V5 W' ∧ W'.heap[w21_2.heap.size]? = some (.cells #[.int .u8 0, .int .i64 0, .string ⟨#[]⟩, .slice none 0 0] 24) ∧ W'.heap[w21_3.heap.size]? = some (.cells #[.int .u8 x.f0, .int .i64 x.f1, .string x.f2, .slice (some ad) x.f3.length c] 24) ∧ W'.ownsRow V5.heap.size 24 4 (.slice A21_1 (x.f3.length) c21_1) (x.f3.length) (cs.flatten) ∧ (.slice A21_1 (x.f3.length) c21_1 : Value).ownBlock ≠ some (w21_2.heap.size) ∧ (.slice A21_1 (x.f3.length) c21_1 : Value).ownBlock ≠ some (w21_3.heap.size)) ⟨hHeld, heap_alloc X3, World.alloc_heap_new _ _, World.ownsRow.alloc G3 _, NX3, own_ne G3⟩ (fun w21_4 hf => ?_)
                    obtain ⟨B4, X4, O4, G4, NX4, N14⟩ := hf
                    clear hHeld
                    have hHeld := B4
                    refine wpAnyH_ready (rs := [6]) (by kernel_rfl) (by simp) ?_
                    refine held_cons rfl (by rfl) (fun K hK => ?_) ?_
                    · refine wp_append_at (.tmp 84) (.tmp 86) 22 rfl V5.heap.size 24 (.agg #[.int .u8 0, .int .i64 0, .string ⟨#[]⟩, .slice none 0 0]) 4 56 Tryd.underlying22 info24 rfl (by decide) _ _ _ (cs.flatten) rfl G4 _ (1) _ ([Value.int .u8 x.f0, .int .i64 x.f1, .string x.f2, .slice (some ad) x.f3.length c]) rfl (rfl) ((World.news_of_block O4)) ((by intro u' hu'; simp at hu'; rcases hu' with rfl | rfl | rfl | rfl <;> rfl)) (x.f3.length + (1)) (by first | rfl | exact Nat.zero_add _) (cs.flatten ++ [Value.int .u8 x.f0, .int .i64 x.f1, .string x.f2, .slice (some ad) x.f3.length c]) (by first | rfl | exact List.nil_append _) (by omega) (by decide) B4.size ?_
                      intro A21_4 c21_4 w21_5 G5 hg hat
                      have B5 : Below V5.heap.size V5 w21_5 := B4.grown hg B4.size (fun q e => (World.ownsRow.lt G4 q e).1)
                      have X5 := heap_keep hg X4 NX4
                      have NX5 := at_ne hat NX4 (heap_lt X4)
                      have O5 := heap_keep hg O4 N14
                      have N15 := at_ne hat N14 (heap_lt O4)
                      clear hg hat
                      refine hK.out _ _ B5 (fun hHeld => ?_)
                      clear hK K
                      try simp only [Act.put, List.setIfInBounds_toArray, List.set_cons_zero, List.set_cons_succ]
                      refine held_take 7 (v := _) rfl (by kernel_rfl) (by kernel_rfl) (by kernel_rfl) (by rfl) (by assumption) (fun w' hSw => by
                        skip
                        go_simp
                        try with_reducible rfl) ?_
                      try simp only [Act.put, List.setIfInBounds_toArray, List.set_cons_zero, List.set_cons_succ]
                      refine wpAnyH_ready (rs := [9]) (by kernel_rfl) (by simp) ?_
                      refine held_cons rfl (by rfl) (fun K hK => ?_) ?_
                      · unfold Oper.wp
                        have hz := heap_cells X5
                        have hzf := heap_frozen X5
                        go_simp
                        refine hK.out _ _ (B5.trans (set4_below (w21_2.heap.size) (by first | exact Nat.le_refl _ | exact BX) _ _ _ _)) (fun hHeld => ?_)
                        clear hK K
                        try simp only [Act.put, List.setIfInBounds_toArray, List.set_cons_zero, List.set_cons_succ]
                        refine wpAnyH_done (by kernel_rfl) ?_ _
                        show R21 _ _
                        rw [HR21.out]
                        have eL : x.f3.length + (1) = (x.f3 ++ [x]).length := by simp; try omega
                        have eF : cs.flatten ++ [Value.int .u8 x.f0, .int .i64 x.f1, .string x.f2, .slice (some ad) x.f3.length c] = (cs ++ [[Value.int .u8 x.f0, .int .i64 x.f1, .string x.f2, .slice (some ad) x.f3.length c]]).flatten := by simp
                        have hB4 : Below V5.heap.size V5 (put4 w21_5 (w21_2.heap.size) (.int .u8 47) (.int .i64 0) (.string ⟨#[]⟩) (.slice A21_4 (x.f3.length + (1)) c21_4)) := B5.trans (set4_below (w21_2.heap.size) (by first | exact Nat.le_refl _ | exact BX) _ _ _ _)
                        have hG4 : (put4 w21_5 (w21_2.heap.size) (.int .u8 47) (.int .i64 0) (.string ⟨#[]⟩) (.slice A21_4 (x.f3.length + (1)) c21_4)).ownsRow V5.heap.size 24 4 (.slice A21_4 (x.f3.length + (1)) c21_4) (x.f3.length + (1)) (cs.flatten ++ [Value.int .u8 x.f0, .int .i64 x.f1, .string x.f2, .slice (some ad) x.f3.length c]) := own_keep G5 (fun g e => put4_far _ _ _ (fun h => NX5 (by rw [e, h])) _ _ _ _)
                        rw [eF] at hG4
                        have hAt : At (put4 w21_5 (w21_2.heap.size) (.int .u8 47) (.int .i64 0) (.string ⟨#[]⟩) (.slice A21_4 (x.f3.length + (1)) c21_4)) ⟨47, 0, ⟨#[]⟩, x.f3 ++ [x]⟩ _ _ := row_tree hG4 ((fun h => (HRW.out.below ((HBV5.out.trans (h.mono HBV5.out.size)))).append (RowOf.single (HA.out.below ((HBV5.out.trans (h.mono HBV5.out.size)))))) hB4) eL (by omega) 47 0 ⟨#[]⟩
                        have hcl : ∀ j, (put4 w21_5 (w21_2.heap.size) (.int .u8 47) (.int .i64 0) (.string ⟨#[]⟩) (.slice A21_4 (x.f3.length + (1)) c21_4)).cell? ⟨w21_2.heap.size, j, none⟩ = #[Value.int .u8 47, .int .i64 0, .string ⟨#[]⟩, .slice A21_4 (x.f3 ++ [x]).length c21_4][j]? := fun j => by rw [← eL]; exact set4 _ _ hz _ _ _ _ j
                        unfold put4 at hcl hAt
                        exact ⟨w21_2.heap.size, _, _, _, _, _, _, _, rfl, hHeld, (by first | exact Nat.le_refl _ | exact BX), hcl, hAt⟩
                      exact AllReadyH.nil
                    exact AllReadyH.nil
                  exact AllReadyH.nil
                exact AllReadyH.nil
              refine held_cons rfl (by rfl) (fun K hK => ?_) ?_
              · unfold Oper.wp
                go_simp
                refine hK.out _ _ (hHeld.alloc hHeld.size _) (fun hHeld => ?_)
                clear hK K
                try simp only [Act.put, List.setIfInBounds_toArray, List.set_cons_zero, List.set_cons_succ]
                refine held_world (fun W' => Below V5.heap.size V5 W' ∧ W'.heap[w21_1.heap.size]? = some (.cells #[.int .u8 x.f0, .int .i64 x.f1, .string x.f2, .slice (some ad) x.f3.length c] 24) ∧ W'.ownsRow V5.heap.size 24 4 (.slice (some ⟨V5.heap.size, 0, none⟩) 0 0) (0) ([]) ∧ (.slice (some ⟨V5.heap.size, 0, none⟩) 0 0 : Value).ownBlock ≠ some (w21_1.heap.size)) ⟨hHeld, World.alloc_heap_new _ _, World.ownsRow.alloc G1 _, own_ne G1⟩ (fun w21_2 hf => ?_)
                obtain ⟨B2, O2, G2, N12⟩ := hf
                clear hHeld
                have hHeld := B2
                refine wpAnyH_ready (rs := [3, 8]) (by kernel_rfl) (by simp) ?_
                refine held_cons rfl (by rfl) (fun K hK => ?_) ?_
                · refine wp_append_at (.tmp 81) (.tmp 83) 22 rfl V5.heap.size 24 (.agg #[.int .u8 0, .int .i64 0, .string ⟨#[]⟩, .slice none 0 0]) 4 56 Tryd.underlying22 info24 rfl (by decide) _ _ _ ([]) rfl G2 _ (x.f3.length) _ (cs.flatten) rfl (NL3.out) ((NW3.out _ ((HBV5.out.trans (B2.mono HBV5.out.size))))) (NO3.out) (x.f3.length) (by first | rfl | exact Nat.zero_add _) (cs.flatten) (by first | rfl | exact List.nil_append _) (by omega) (by decide) B2.size ?_
                  intro A21_2 c21_2 w21_3 G3 hg hat
                  have B3 : Below V5.heap.size V5 w21_3 := B2.grown hg B2.size (fun q e => (World.ownsRow.lt G2 q e).1)
                  have O3 := heap_keep hg O2 N12
                  have N13 := at_ne hat N12 (heap_lt O2)
                  clear hg hat
                  refine hK.out _ _ B3 (fun hHeld => ?_)
                  clear hK K
                  try simp only [Act.put, List.setIfInBounds_toArray, List.set_cons_zero, List.set_cons_succ]
                  refine wpAnyH_ready (rs := [6, 8]) (by kernel_rfl) (by simp) ?_
                  refine held_cons rfl (by rfl) (fun K hK => ?_) ?_
                  · refine wp_append_at (.tmp 84) (.tmp 86) 22 rfl V5.heap.size 24 (.agg #[.int .u8 0, .int .i64 0, .string ⟨#[]⟩, .slice none 0 0]) 4 56 Tryd.underlying22 info24 rfl (by decide) _ _ _ (cs.flatten) rfl G3 _ (1) _ ([Value.int .u8 x.f0, .int .i64 x.f1, .string x.f2, .slice (some ad) x.f3.length c]) rfl (rfl) ((World.news_of_block O3)) ((by intro u' hu'; simp at hu'; rcases hu' with rfl | rfl | rfl | rfl <;> rfl)) (x.f3.length + (1)) (by first | rfl | exact Nat.zero_add _) (cs.flatten ++ [Value.int .u8 x.f0, .int .i64 x.f1, .string x.f2, .slice (some ad) x.f3.length c]) (by first | rfl | exact List.nil_append _) (by omega) (by decide) B3.size ?_
                    intro A21_3 c21_3 w21_4 G4 hg hat
                    have B4 : Below V5.heap.size V5 w21_4 := B3.grown hg B3.size (fun q e => (World.ownsRow.lt G3 q e).1)
                    have O4 := heap_keep hg O3 N13
                    have N14 := at_ne hat N13 (heap_lt O3)
                    clear hg hat
                    refine hK.out _ _ B4 (fun hHeld => ?_)
                    clear hK K
                    try simp only [Act.put, List.setIfInBounds_toArray, List.set_cons_zero, List.set_cons_succ]
                    refine held_take 7 (v := _) rfl (by kernel_rfl) (by kernel_rfl) (by kernel_rfl) (by rfl) (by assumption) (fun w' hSw => by
                      skip
                      go_simp
                      try with_reducible rfl) ?_
                    try simp only [Act.put, List.setIfInBounds_toArray, List.set_cons_zero, List.set_cons_succ]
                    refine wpAnyH_ready (rs := [8]) (by kernel_rfl) (by simp) ?_
                    refine held_cons rfl (by rfl) (fun K hK => ?_) ?_
                    · unfold Oper.wp
                      go_simp
                      refine hK.out _ _ (hHeld.alloc hHeld.size _) (fun hHeld => ?_)
                      clear hK K
                      try simp only [Act.put, List.setIfInBounds_toArray, List.set_cons_zero, List.set_cons_succ]
                      have BX := B4.size
                      refine held_world (fun W' => Below V5.heap.size V5 W' ∧ W'.heap[w21_4.heap.size]? = some (.cells #[.int .u8 0, .int .i64 0, .string ⟨#[]⟩, .slice none 0 0] 24) ∧ W'.heap[w21_1.heap.size]? = some (.cells #[.int .u8 x.f0, .int .i64 x.f1, .string x.f2, .slice (some ad) x.f3.length c] 24) ∧ W'.ownsRow V5.heap.size 24 4 (.slice A21_3 (x.f3.length + (1)) c21_3) (x.f3.length + (1)) (cs.flatten ++ [Value.int .u8 x.f0, .int .i64 x.f1, .string x.f2, .slice (some ad) x.f3.length c]) ∧ (.slice A21_3 (x.f3.length + (1)) c21_3 : Value).ownBlock ≠ some (w21_4.heap.size) ∧ (.slice A21_3 (x.f3.length + (1)) c21_3 : Value).ownBlock ≠ some (w21_1.heap.size)) ⟨hHeld, World.alloc_heap_new _ _, heap_alloc O4, World.ownsRow.alloc G4 _, own_ne G4, N14⟩ (fun w21_5 hf => ?_)
                      obtain ⟨B5, X5, O5, G5, NX5, N15⟩ := hf
                      clear hHeld
                      have hHeld := B5
                      refine wpAnyH_ready (rs := [9]) (by kernel_rfl) (by simp) ?_
                      refine held_cons rfl (by rfl) (fun K hK => ?_) ?_
                      · unfold Oper.wp
                        have hz := heap_cells X5
                        have hzf := heap_frozen X5
                        go_simp
                        refine hK.out _ _ (B5.trans (set4_below (w21_4.heap.size) (by first | exact Nat.le_refl _ | exact BX) _ _ _ _)) (fun hHeld => ?_)
                        clear hK K
                        try simp only [Act.put, List.setIfInBounds_toArray, List.set_cons_zero, List.set_cons_succ]
                        refine wpAnyH_done (by kernel_rfl) ?_ _
                        show R21 _ _
                        rw [HR21.out]
                        have eL : x.f3.length + (1) = (x.f3 ++ [x]).length := by simp; try omega
                        have eF : cs.flatten ++ [Value.int .u8 x.f0, .int .i64 x.f1, .string x.f2, .slice (some ad) x.f3.length c] = (cs ++ [[Value.int .u8 x.f0, .int .i64 x.f1, .string x.f2, .slice (some ad) x.f3.length c]]).flatten := by simp
                        have hB4 : Below V5.heap.size V5 (put4 w21_5 (w21_4.heap.size) (.int .u8 47) (.int .i64 0) (.string ⟨#[]⟩) (.slice A21_3 (x.f3.length + (1)) c21_3)) := B5.trans (set4_below (w21_4.heap.size) (by first | exact Nat.le_refl _ | exact BX) _ _ _ _)
                        have hG4 : (put4 w21_5 (w21_4.heap.size) (.int .u8 47) (.int .i64 0) (.string ⟨#[]⟩) (.slice A21_3 (x.f3.length + (1)) c21_3)).ownsRow V5.heap.size 24 4 (.slice A21_3 (x.f3.length + (1)) c21_3) (x.f3.length + (1)) (cs.flatten ++ [Value.int .u8 x.f0, .int .i64 x.f1, .string x.f2, .slice (some ad) x.f3.length c]) := own_keep G5 (fun g e => put4_far _ _ _ (fun h => NX5 (by rw [e, h])) _ _ _ _)
                        rw [eF] at hG4
                        have hAt : At (put4 w21_5 (w21_4.heap.size) (.int .u8 47) (.int .i64 0) (.string ⟨#[]⟩) (.slice A21_3 (x.f3.length + (1)) c21_3)) ⟨47, 0, ⟨#[]⟩, x.f3 ++ [x]⟩ _ _ := row_tree hG4 ((fun h => (HRW.out.below ((HBV5.out.trans (h.mono HBV5.out.size)))).append (RowOf.single (HA.out.below ((HBV5.out.trans (h.mono HBV5.out.size)))))) hB4) eL (by omega) 47 0 ⟨#[]⟩
                        have hcl : ∀ j, (put4 w21_5 (w21_4.heap.size) (.int .u8 47) (.int .i64 0) (.string ⟨#[]⟩) (.slice A21_3 (x.f3.length + (1)) c21_3)).cell? ⟨w21_4.heap.size, j, none⟩ = #[Value.int .u8 47, .int .i64 0, .string ⟨#[]⟩, .slice A21_3 (x.f3 ++ [x]).length c21_3][j]? := fun j => by rw [← eL]; exact set4 _ _ hz _ _ _ _ j
                        unfold put4 at hcl hAt
                        exact ⟨w21_4.heap.size, _, _, _, _, _, _, _, rfl, hHeld, (by first | exact Nat.le_refl _ | exact BX), hcl, hAt⟩
                      exact AllReadyH.nil
                    exact AllReadyH.nil
                  refine held_cons rfl (by rfl) (fun K hK => ?_) ?_
                  · unfold Oper.wp
                    go_simp
                    refine hK.out _ _ (hHeld.alloc hHeld.size _) (fun hHeld => ?_)
                    clear hK K
                    try simp only [Act.put, List.setIfInBounds_toArray, List.set_cons_zero, List.set_cons_succ]
                    have BX := B3.size
                    refine held_world (fun W' => Below V5.heap.size V5 W' ∧ W'.heap[w21_3.heap.size]? = some (.cells #[.int .u8 0, .int .i64 0, .string ⟨#[]⟩, .slice none 0 0] 24) ∧ W'.heap[w21_1.heap.size]? = some (.cells #[.int .u8 x.f0, .int .i64 x.f1, .string x.f2, .slice (some ad) x.f3.length c] 24) ∧ W'.ownsRow V5.heap.size 24 4 (.slice A21_2 (x.f3.length) c21_2) (x.f3.length) (cs.flatten) ∧ (.slice A21_2 (x.f3.length) c21_2 : Value).ownBlock ≠ some (w21_3.heap.size) ∧ (.slice A21_2 (x.f3.length) c21_2 : Value).ownBlock ≠ some (w21_1.heap.size)) ⟨hHeld, World.alloc_heap_new _ _, heap_alloc O3, World.ownsRow.alloc G3 _, own_ne G3, N13⟩ (fun w21_4 hf => ?_)
                    obtain ⟨B4, X4, O4, G4, NX4, N14⟩ := hf
                    clear hHeld
                    have hHeld := B4
                    refine wpAnyH_ready (rs := [6]) (by kernel_rfl) (by simp) ?_
                    refine held_cons rfl (by rfl) (fun K hK => ?_) ?_
                    · refine wp_append_at (.tmp 84) (.tmp 86) 22 rfl V5.heap.size 24 (.agg #[.int .u8 0, .int .i64 0, .string ⟨#[]⟩, .slice none 0 0]) 4 56 Tryd.underlying22 info24 rfl (by decide) _ _ _ (cs.flatten) rfl G4 _ (1) _ ([Value.int .u8 x.f0, .int .i64 x.f1, .string x.f2, .slice (some ad) x.f3.length c]) rfl (rfl) ((World.news_of_block O4)) ((by intro u' hu'; simp at hu'; rcases hu' with rfl | rfl | rfl | rfl <;> rfl)) (x.f3.length + (1)) (by first | rfl | exact Nat.zero_add _) (cs.flatten ++ [Value.int .u8 x.f0, .int .i64 x.f1, .string x.f2, .slice (some ad) x.f3.length c]) (by first | rfl | exact List.nil_append _) (by omega) (by decide) B4.size ?_
                      intro A21_4 c21_4 w21_5 G5 hg hat
                      have B5 : Below V5.heap.size V5 w21_5 := B4.grown hg B4.size (fun q e => (World.ownsRow.lt G4 q e).1)
                      have X5 := heap_keep hg X4 NX4
                      have NX5 := at_ne hat NX4 (heap_lt X4)
                      have O5 := heap_keep hg O4 N14
                      have N15 := at_ne hat N14 (heap_lt O4)
                      clear hg hat
                      refine hK.out _ _ B5 (fun hHeld => ?_)
                      clear hK K
                      try simp only [Act.put, List.setIfInBounds_toArray, List.set_cons_zero, List.set_cons_succ]
                      refine held_take 7 (v := _) rfl (by kernel_rfl) (by kernel_rfl) (by kernel_rfl) (by rfl) (by assumption) (fun w' hSw => by
                        skip
                        go_simp
                        try with_reducible rfl) ?_
                      try simp only [Act.put, List.setIfInBounds_toArray, List.set_cons_zero, List.set_cons_succ]
                      refine wpAnyH_ready (rs := [9]) (by kernel_rfl) (by simp) ?_
                      refine held_cons rfl (by rfl) (fun K hK => ?_) ?_
                      · unfold Oper.wp
                        have hz := heap_cells X5
                        have hzf := heap_frozen X5
                        go_simp
                        refine hK.out _ _ (B5.trans (set4_below (w21_3.heap.size) (by first | exact Nat.le_refl _ | exact BX) _ _ _ _)) (fun hHeld => ?_)
                        clear hK K
                        try simp only [Act.put, List.setIfInBounds_toArray, List.set_cons_zero, List.set_cons_succ]
                        refine wpAnyH_done (by kernel_rfl) ?_ _
                        show R21 _ _
                        rw [HR21.out]
                        have eL : x.f3.length + (1) = (x.f3 ++ [x]).length := by simp; try omega
                        have eF : cs.flatten ++ [Value.int .u8 x.f0, .int .i64 x.f1, .string x.f2, .slice (some ad) x.f3.length c] = (cs ++ [[Value.int .u8 x.f0, .int .i64 x.f1, .string x.f2, .slice (some ad) x.f3.length c]]).flatten := by simp
                        have hB4 : Below V5.heap.size V5 (put4 w21_5 (w21_3.heap.size) (.int .u8 47) (.int .i64 0) (.string ⟨#[]⟩) (.slice A21_4 (x.f3.length + (1)) c21_4)) := B5.trans (set4_below (w21_3.heap.size) (by first | exact Nat.le_refl _ | exact BX) _ _ _ _)
                        have hG4 : (put4 w21_5 (w21_3.heap.size) (.int .u8 47) (.int .i64 0) (.string ⟨#[]⟩) (.slice A21_4 (x.f3.length + (1)) c21_4)).ownsRow V5.heap.size 24 4 (.slice A21_4 (x.f3.length + (1)) c21_4) (x.f3.length + (1)) (cs.flatten ++ [Value.int .u8 x.f0, .int .i64 x.f1, .string x.f2, .slice (some ad) x.f3.length c]) := own_keep G5 (fun g e => put4_far _ _ _ (fun h => NX5 (by rw [e, h])) _ _ _ _)
                        rw [eF] at hG4
                        have hAt : At (put4 w21_5 (w21_3.heap.size) (.int .u8 47) (.int .i64 0) (.string ⟨#[]⟩) (.slice A21_4 (x.f3.length + (1)) c21_4)) ⟨47, 0, ⟨#[]⟩, x.f3 ++ [x]⟩ _ _ := row_tree hG4 ((fun h => (HRW.out.below ((HBV5.out.trans (h.mono HBV5.out.size)))).append (RowOf.single (HA.out.below ((HBV5.out.trans (h.mono HBV5.out.size)))))) hB4) eL (by omega) 47 0 ⟨#[]⟩
                        have hcl : ∀ j, (put4 w21_5 (w21_3.heap.size) (.int .u8 47) (.int .i64 0) (.string ⟨#[]⟩) (.slice A21_4 (x.f3.length + (1)) c21_4)).cell? ⟨w21_3.heap.size, j, none⟩ = #[Value.int .u8 47, .int .i64 0, .string ⟨#[]⟩, .slice A21_4 (x.f3 ++ [x]).length c21_4][j]? := fun j => by rw [← eL]; exact set4 _ _ hz _ _ _ _ j
                        unfold put4 at hcl hAt
                        exact ⟨w21_3.heap.size, _, _, _, _, _, _, _, rfl, hHeld, (by first | exact Nat.le_refl _ | exact BX), hcl, hAt⟩
                      exact AllReadyH.nil
                    exact AllReadyH.nil
                  exact AllReadyH.nil
                refine held_cons rfl (by rfl) (fun K hK => ?_) ?_
                · unfold Oper.wp
                  go_simp
                  refine hK.out _ _ (hHeld.alloc hHeld.size _) (fun hHeld => ?_)
                  clear hK K
                  try simp only [Act.put, List.setIfInBounds_toArray, List.set_cons_zero, List.set_cons_succ]
                  have BX := B2.size
                  refine held_world (fun W' => Below V5.heap.size V5 W' ∧ W'.heap[w21_2.heap.size]? = some (.cells #[.int .u8 0, .int .i64 0, .string ⟨#[]⟩, .slice none 0 0] 24) ∧ W'.heap[w21_1.heap.size]? = some (.cells #[.int .u8 x.f0, .int .i64 x.f1, .string x.f2, .slice (some ad) x.f3.length c] 24) ∧ W'.ownsRow V5.heap.size 24 4 (.slice (some ⟨V5.heap.size, 0, none⟩) 0 0) (0) ([]) ∧ (.slice (some ⟨V5.heap.size, 0, none⟩) 0 0 : Value).ownBlock ≠ some (w21_2.heap.size) ∧ (.slice (some ⟨V5.heap.size, 0, none⟩) 0 0 : Value).ownBlock ≠ some (w21_1.heap.size)) ⟨hHeld, World.alloc_heap_new _ _, heap_alloc O2, World.ownsRow.alloc G2 _, own_ne G2, N12⟩ (fun w21_3 hf => ?_)
                  obtain ⟨B3, X3, O3, G3, NX3, N13⟩ := hf
                  clear hHeld
                  have hHeld := B3
                  refine wpAnyH_ready (rs := [3]) (by kernel_rfl) (by simp) ?_
                  refine held_cons rfl (by rfl) (fun K hK => ?_) ?_
                  · refine wp_append_at (.tmp 81) (.tmp 83) 22 rfl V5.heap.size 24 (.agg #[.int .u8 0, .int .i64 0, .string ⟨#[]⟩, .slice none 0 0]) 4 56 Tryd.underlying22 info24 rfl (by decide) _ _ _ ([]) rfl G3 _ (x.f3.length) _ (cs.flatten) rfl (NL3.out) ((NW3.out _ ((HBV5.out.trans (B3.mono HBV5.out.size))))) (NO3.out) (x.f3.length) (by first | rfl | exact Nat.zero_add _) (cs.flatten) (by first | rfl | exact List.nil_append _) (by omega) (by decide) B3.size ?_
                    intro A21_3 c21_3 w21_4 G4 hg hat
                    have B4 : Below V5.heap.size V5 w21_4 := B3.grown hg B3.size (fun q e => (World.ownsRow.lt G3 q e).1)
                    have X4 := heap_keep hg X3 NX3
                    have NX4 := at_ne hat NX3 (heap_lt X3)
                    have O4 := heap_keep hg O3 N13
                    have N14 := at_ne hat N13 (heap_lt O3)
                    clear hg hat
                    refine hK.out _ _ B4 (fun hHeld => ?_)
                    clear hK K
                    try simp only [Act.put, List.setIfInBounds_toArray, List.set_cons_zero, List.set_cons_succ]
                    refine wpAnyH_ready (rs := [6]) (by kernel_rfl) (by simp) ?_
                    refine held_cons rfl (by rfl) (fun K hK => ?_) ?_
                    · refine wp_append_at (.tmp 84) (.tmp 86) 22 rfl V5.heap.size 24 (.agg #[.int .u8 0, .int .i64 0, .string ⟨#[]⟩, .slice none 0 0]) 4 56 Tryd.underlying22 info24 rfl (by decide) _ _ _ (cs.flatten) rfl G4 _ (1) _ ([Value.int .u8 x.f0, .int .i64 x.f1, .string x.f2, .slice (some ad) x.f3.length c]) rfl (rfl) ((World.news_of_block O4)) ((by intro u' hu'; simp at hu'; rcases hu' with rfl | rfl | rfl | rfl <;> rfl)) (x.f3.length + (1)) (by first | rfl | exact Nat.zero_add _) (cs.flatten ++ [Value.int .u8 x.f0, .int .i64 x.f1, .string x.f2, .slice (some ad) x.f3.length c]) (by first | rfl | exact List.nil_append _) (by omega) (by decide) B4.size ?_
                      intro A21_4 c21_4 w21_5 G5 hg hat
                      have B5 : Below V5.heap.size V5 w21_5 := B4.grown hg B4.size (fun q e => (World.ownsRow.lt G4 q e).1)
                      have X5 := heap_keep hg X4 NX4
                      have NX5 := at_ne hat NX4 (heap_lt X4)
                      have O5 := heap_keep hg O4 N14
                      have N15 := at_ne hat N14 (heap_lt O4)
                      clear hg hat
                      refine hK.out _ _ B5 (fun hHeld => ?_)
                      clear hK K
                      try simp only [Act.put, List.setIfInBounds_toArray, List.set_cons_zero, List.set_cons_succ]
                      refine held_take 7 (v := _) rfl (by kernel_rfl) (by kernel_rfl) (by kernel_rfl) (by rfl) (by assumption) (fun w' hSw => by
                        skip
                        go_simp
                        try with_reducible rfl) ?_
                      try simp only [Act.put, List.setIfInBounds_toArray, List.set_cons_zero, List.set_cons_succ]
                      refine wpAnyH_ready (rs := [9]) (by kernel_rfl) (by simp) ?_
                      refine held_cons rfl (by rfl) (fun K hK => ?_) ?_
                      · unfold Oper.wp
                        have hz := heap_cells X5
                        have hzf := heap_frozen X5
                        go_simp
                        refine hK.out _ _ (B5.trans (set4_below (w21_2.heap.size) (by first | exact Nat.le_refl _ | exact BX) _ _ _ _)) (fun hHeld => ?_)
                        clear hK K
                        try simp only [Act.put, List.setIfInBounds_toArray, List.set_cons_zero, List.set_cons_succ]
                        refine wpAnyH_done (by kernel_rfl) ?_ _
                        show R21 _ _
                        rw [HR21.out]
                        have eL : x.f3.length + (1) = (x.f3 ++ [x]).length := by simp; try omega
                        have eF : cs.flatten ++ [Value.int .u8 x.f0, .int .i64 x.f1, .string x.f2, .slice (some ad) x.f3.length c] = (cs ++ [[Value.int .u8 x.f0, .int .i64 x.f1, .string x.f2, .slice (some ad) x.f3.length c]]).flatten := by simp
                        have hB4 : Below V5.heap.size V5 (put4 w21_5 (w21_2.heap.size) (.int .u8 47) (.int .i64 0) (.string ⟨#[]⟩) (.slice A21_4 (x.f3.length + (1)) c21_4)) := B5.trans (set4_below (w21_2.heap.size) (by first | exact Nat.le_refl _ | exact BX) _ _ _ _)
                        have hG4 : (put4 w21_5 (w21_2.heap.size) (.int .u8 47) (.int .i64 0) (.string ⟨#[]⟩) (.slice A21_4 (x.f3.length + (1)) c21_4)).ownsRow V5.heap.size 24 4 (.slice A21_4 (x.f3.length + (1)) c21_4) (x.f3.length + (1)) (cs.flatten ++ [Value.int .u8 x.f0, .int .i64 x.f1, .string x.f2, .slice (some ad) x.f3.length c]) := own_keep G5 (fun g e => put4_far _ _ _ (fun h => NX5 (by rw [e, h])) _ _ _ _)
                        rw [eF] at hG4
                        have hAt : At (put4 w21_5 (w21_2.heap.size) (.int .u8 47) (.int .i64 0) (.string ⟨#[]⟩) (.slice A21_4 (x.f3.length + (1)) c21_4)) ⟨47, 0, ⟨#[]⟩, x.f3 ++ [x]⟩ _ _ := row_tree hG4 ((fun h => (HRW.out.below ((HBV5.out.trans (h.mono HBV5.out.size)))).append (RowOf.single (HA.out.below ((HBV5.out.trans (h.mono HBV5.out.size)))))) hB4) eL (by omega) 47 0 ⟨#[]⟩
                        have hcl : ∀ j, (put4 w21_5 (w21_2.heap.size) (.int .u8 47) (.int .i64 0) (.string ⟨#[]⟩) (.slice A21_4 (x.f3.length + (1)) c21_4)).cell? ⟨w21_2.heap.size, j, none⟩ = #[Value.int .u8 47, .int .i64 0, .string ⟨#[]⟩, .slice A21_4 (x.f3 ++ [x]).length c21_4][j]? := fun j => by rw [← eL]; exact set4 _ _ hz _ _ _ _ j
                        unfold put4 at hcl hAt
                        exact ⟨w21_2.heap.size, _, _, _, _, _, _, _, rfl, hHeld, (by first | exact Nat.le_refl _ | exact BX), hcl, hAt⟩
                      exact AllReadyH.nil
                    exact AllReadyH.nil
                  exact AllReadyH.nil
                exact AllReadyH.nil
              refine held_cons rfl (by rfl) (fun K hK => ?_) ?_
              · unfold Oper.wp
                go_simp
                refine hK.out _ _ (hHeld.alloc hHeld.size _) (fun hHeld => ?_)
                clear hK K
                try simp only [Act.put, List.setIfInBounds_toArray, List.set_cons_zero, List.set_cons_succ]
                have BX := B1.size
                refine held_world (fun W' => Below V5.heap.size V5 W' ∧ W'.heap[w21_1.heap.size]? = some (.cells #[.int .u8 0, .int .i64 0, .string ⟨#[]⟩, .slice none 0 0] 24) ∧ W'.ownsRow V5.heap.size 24 4 (.slice (some ⟨V5.heap.size, 0, none⟩) 0 0) (0) ([]) ∧ (.slice (some ⟨V5.heap.size, 0, none⟩) 0 0 : Value).ownBlock ≠ some (w21_1.heap.size)) ⟨hHeld, World.alloc_heap_new _ _, World.ownsRow.alloc G1 _, own_ne G1⟩ (fun w21_2 hf => ?_)
                obtain ⟨B2, X2, G2, NX2⟩ := hf
                clear hHeld
                have hHeld := B2
                refine wpAnyH_ready (rs := [3, 5]) (by kernel_rfl) (by simp) ?_
                refine held_cons rfl (by rfl) (fun K hK => ?_) ?_
                · refine wp_append_at (.tmp 81) (.tmp 83) 22 rfl V5.heap.size 24 (.agg #[.int .u8 0, .int .i64 0, .string ⟨#[]⟩, .slice none 0 0]) 4 56 Tryd.underlying22 info24 rfl (by decide) _ _ _ ([]) rfl G2 _ (x.f3.length) _ (cs.flatten) rfl (NL3.out) ((NW3.out _ ((HBV5.out.trans (B2.mono HBV5.out.size))))) (NO3.out) (x.f3.length) (by first | rfl | exact Nat.zero_add _) (cs.flatten) (by first | rfl | exact List.nil_append _) (by omega) (by decide) B2.size ?_
                  intro A21_2 c21_2 w21_3 G3 hg hat
                  have B3 : Below V5.heap.size V5 w21_3 := B2.grown hg B2.size (fun q e => (World.ownsRow.lt G2 q e).1)
                  have X3 := heap_keep hg X2 NX2
                  have NX3 := at_ne hat NX2 (heap_lt X2)
                  clear hg hat
                  refine hK.out _ _ B3 (fun hHeld => ?_)
                  clear hK K
                  try simp only [Act.put, List.setIfInBounds_toArray, List.set_cons_zero, List.set_cons_succ]
                  refine wpAnyH_ready (rs := [5]) (by kernel_rfl) (by simp) ?_
                  refine held_cons rfl (by rfl) (fun K hK => ?_) ?_
                  · unfold Oper.wp
                    go_simp
                    refine hK.out _ _ (hHeld.alloc hHeld.size _) (fun hHeld => ?_)
                    clear hK K
                    try simp only [Act.put, List.setIfInBounds_toArray, List.set_cons_zero, List.set_cons_succ]
                    refine held_world (fun W' => Below V5.heap.size V5 W' ∧ W'.heap[w21_1.heap.size]? = some (.cells #[.int .u8 0, .int .i64 0, .string ⟨#[]⟩, .slice none 0 0] 24) ∧ W'.heap[w21_3.heap.size]? = some (.cells #[.int .u8 x.f0, .int .i64 x.f1, .string x.f2, .slice (some ad) x.f3.length c] 24) ∧ W'.ownsRow V5.heap.size 24 4 (.slice A21_2 (x.f3.length) c21_2) (x.f3.length) (cs.flatten) ∧ (.slice A21_2 (x.f3.length) c21_2 : Value).ownBlock ≠ some (w21_1.heap.size) ∧ (.slice A21_2 (x.f3.length) c21_2 : Value).ownBlock ≠ some (w21_3.heap.size)) ⟨hHeld, heap_alloc X3, World.alloc_heap_new _ _, World.ownsRow.alloc G3 _, NX3, own_ne G3⟩ (fun w21_4 hf => ?_)
                    obtain ⟨B4, X4, O4, G4, NX4, N14⟩ := hf
                    clear hHeld
                    have hHeld := B4
                    refine wpAnyH_ready (rs := [6]) (by kernel_rfl) (by simp) ?_
                    refine held_cons rfl (by rfl) (fun K hK => ?_) ?_
                    · refine wp_append_at (.tmp 84) (.tmp 86) 22 rfl V5.heap.size 24 (.agg #[.int .u8 0, .int .i64 0, .string ⟨#[]⟩, .slice none 0 0]) 4 56 Tryd.underlying22 info24 rfl (by decide) _ _ _ (cs.flatten) rfl G4 _ (1) _ ([Value.int .u8 x.f0, .int .i64 x.f1, .string x.f2, .slice (some ad) x.f3.length c]) rfl (rfl) ((World.news_of_block O4)) ((by intro u' hu'; simp at hu'; rcases hu' with rfl | rfl | rfl | rfl <;> rfl)) (x.f3.length + (1)) (by first | rfl | exact Nat.zero_add _) (cs.flatten ++ [Value.int .u8 x.f0, .int .i64 x.f1, .string x.f2, .slice (some ad) x.f3.length c]) (by first | rfl | exact List.nil_append _) (by omega) (by decide) B4.size ?_
                      intro A21_4 c21_4 w21_5 G5 hg hat
                      have B5 : Below V5.heap.size V5 w21_5 := B4.grown hg B4.size (fun q e => (World.ownsRow.lt G4 q e).1)
                      have X5 := heap_keep hg X4 NX4
                      have NX5 := at_ne hat NX4 (heap_lt X4)
                      have O5 := heap_keep hg O4 N14
                      have N15 := at_ne hat N14 (heap_lt O4)
                      clear hg hat
                      refine hK.out _ _ B5 (fun hHeld => ?_)
                      clear hK K
                      try simp only [Act.put, List.setIfInBounds_toArray, List.set_cons_zero, List.set_cons_succ]
                      refine held_take 7 (v := _) rfl (by kernel_rfl) (by kernel_rfl) (by kernel_rfl) (by rfl) (by assumption) (fun w' hSw => by
                        skip
                        go_simp
                        try with_reducible rfl) ?_
                      try simp only [Act.put, List.setIfInBounds_toArray, List.set_cons_zero, List.set_cons_succ]
                      refine wpAnyH_ready (rs := [9]) (by kernel_rfl) (by simp) ?_
                      refine held_cons rfl (by rfl) (fun K hK => ?_) ?_
                      · unfold Oper.wp
                        have hz := heap_cells X5
                        have hzf := heap_frozen X5
                        go_simp
                        refine hK.out _ _ (B5.trans (set4_below (w21_1.heap.size) (by first | exact Nat.le_refl _ | exact BX) _ _ _ _)) (fun hHeld => ?_)
                        clear hK K
                        try simp only [Act.put, List.setIfInBounds_toArray, List.set_cons_zero, List.set_cons_succ]
                        refine wpAnyH_done (by kernel_rfl) ?_ _
                        show R21 _ _
                        rw [HR21.out]
                        have eL : x.f3.length + (1) = (x.f3 ++ [x]).length := by simp; try omega
                        have eF : cs.flatten ++ [Value.int .u8 x.f0, .int .i64 x.f1, .string x.f2, .slice (some ad) x.f3.length c] = (cs ++ [[Value.int .u8 x.f0, .int .i64 x.f1, .string x.f2, .slice (some ad) x.f3.length c]]).flatten := by simp
                        have hB4 : Below V5.heap.size V5 (put4 w21_5 (w21_1.heap.size) (.int .u8 47) (.int .i64 0) (.string ⟨#[]⟩) (.slice A21_4 (x.f3.length + (1)) c21_4)) := B5.trans (set4_below (w21_1.heap.size) (by first | exact Nat.le_refl _ | exact BX) _ _ _ _)
                        have hG4 : (put4 w21_5 (w21_1.heap.size) (.int .u8 47) (.int .i64 0) (.string ⟨#[]⟩) (.slice A21_4 (x.f3.length + (1)) c21_4)).ownsRow V5.heap.size 24 4 (.slice A21_4 (x.f3.length + (1)) c21_4) (x.f3.length + (1)) (cs.flatten ++ [Value.int .u8 x.f0, .int .i64 x.f1, .string x.f2, .slice (some ad) x.f3.length c]) := own_keep G5 (fun g e => put4_far _ _ _ (fun h => NX5 (by rw [e, h])) _ _ _ _)
                        rw [eF] at hG4
                        have hAt : At (put4 w21_5 (w21_1.heap.size) (.int .u8 47) (.int .i64 0) (.string ⟨#[]⟩) (.slice A21_4 (x.f3.length + (1)) c21_4)) ⟨47, 0, ⟨#[]⟩, x.f3 ++ [x]⟩ _ _ := row_tree hG4 ((fun h => (HRW.out.below ((HBV5.out.trans (h.mono HBV5.out.size)))).append (RowOf.single (HA.out.below ((HBV5.out.trans (h.mono HBV5.out.size)))))) hB4) eL (by omega) 47 0 ⟨#[]⟩
                        have hcl : ∀ j, (put4 w21_5 (w21_1.heap.size) (.int .u8 47) (.int .i64 0) (.string ⟨#[]⟩) (.slice A21_4 (x.f3.length + (1)) c21_4)).cell? ⟨w21_1.heap.size, j, none⟩ = #[Value.int .u8 47, .int .i64 0, .string ⟨#[]⟩, .slice A21_4 (x.f3 ++ [x]).length c21_4][j]? := fun j => by rw [← eL]; exact set4 _ _ hz _ _ _ _ j
                        unfold put4 at hcl hAt
                        exact ⟨w21_1.heap.size, _, _, _, _, _, _, _, rfl, hHeld, (by first | exact Nat.le_refl _ | exact BX), hcl, hAt⟩
                      exact AllReadyH.nil
                    exact AllReadyH.nil
                  exact AllReadyH.nil
                refine held_cons rfl (by rfl) (fun K hK => ?_) ?_
                · unfold Oper.wp
                  go_simp
                  refine hK.out _ _ (hHeld.alloc hHeld.size _) (fun hHeld => ?_)
                  clear hK K
                  try simp only [Act.put, List.setIfInBounds_toArray, List.set_cons_zero, List.set_cons_succ]
                  refine held_world (fun W' => Below V5.heap.size V5 W' ∧ W'.heap[w21_1.heap.size]? = some (.cells #[.int .u8 0, .int .i64 0, .string ⟨#[]⟩, .slice none 0 0] 24) ∧ W'.heap[w21_2.heap.size]? = some (.cells #[.int .u8 x.f0, .int .i64 x.f1, .string x.f2, .slice (some ad) x.f3.length c] 24) ∧ W'.ownsRow V5.heap.size 24 4 (.slice (some ⟨V5.heap.size, 0, none⟩) 0 0) (0) ([]) ∧ (.slice (some ⟨V5.heap.size, 0, none⟩) 0 0 : Value).ownBlock ≠ some (w21_1.heap.size) ∧ (.slice (some ⟨V5.heap.size, 0, none⟩) 0 0 : Value).ownBlock ≠ some (w21_2.heap.size)) ⟨hHeld, heap_alloc X2, World.alloc_heap_new _ _, World.ownsRow.alloc G2 _, NX2, own_ne G2⟩ (fun w21_3 hf => ?_)
                  obtain ⟨B3, X3, O3, G3, NX3, N13⟩ := hf
                  clear hHeld
                  have hHeld := B3
                  refine wpAnyH_ready (rs := [3]) (by kernel_rfl) (by simp) ?_
                  refine held_cons rfl (by rfl) (fun K hK => ?_) ?_
                  · refine wp_append_at (.tmp 81) (.tmp 83) 22 rfl V5.heap.size 24 (.agg #[.int .u8 0, .int .i64 0, .string ⟨#[]⟩, .slice none 0 0]) 4 56 Tryd.underlying22 info24 rfl (by decide) _ _ _ ([]) rfl G3 _ (x.f3.length) _ (cs.flatten) rfl (NL3.out) ((NW3.out _ ((HBV5.out.trans (B3.mono HBV5.out.size))))) (NO3.out) (x.f3.length) (by first | rfl | exact Nat.zero_add _) (cs.flatten) (by first | rfl | exact List.nil_append _) (by omega) (by decide) B3.size ?_
                    intro A21_3 c21_3 w21_4 G4 hg hat
                    have B4 : Below V5.heap.size V5 w21_4 := B3.grown hg B3.size (fun q e => (World.ownsRow.lt G3 q e).1)
                    have X4 := heap_keep hg X3 NX3
                    have NX4 := at_ne hat NX3 (heap_lt X3)
                    have O4 := heap_keep hg O3 N13
                    have N14 := at_ne hat N13 (heap_lt O3)
                    clear hg hat
                    refine hK.out _ _ B4 (fun hHeld => ?_)
                    clear hK K
                    try simp only [Act.put, List.setIfInBounds_toArray, List.set_cons_zero, List.set_cons_succ]
                    refine wpAnyH_ready (rs := [6]) (by kernel_rfl) (by simp) ?_
                    refine held_cons rfl (by rfl) (fun K hK => ?_) ?_
                    · refine wp_append_at (.tmp 84) (.tmp 86) 22 rfl V5.heap.size 24 (.agg #[.int .u8 0, .int .i64 0, .string ⟨#[]⟩, .slice none 0 0]) 4 56 Tryd.underlying22 info24 rfl (by decide) _ _ _ (cs.flatten) rfl G4 _ (1) _ ([Value.int .u8 x.f0, .int .i64 x.f1, .string x.f2, .slice (some ad) x.f3.length c]) rfl (rfl) ((World.news_of_block O4)) ((by intro u' hu'; simp at hu'; rcases hu' with rfl | rfl | rfl | rfl <;> rfl)) (x.f3.length + (1)) (by first | rfl | exact Nat.zero_add _) (cs.flatten ++ [Value.int .u8 x.f0, .int .i64 x.f1, .string x.f2, .slice (some ad) x.f3.length c]) (by first | rfl | exact List.nil_append _) (by omega) (by decide) B4.size ?_
                      intro A21_4 c21_4 w21_5 G5 hg hat
                      have B5 : Below V5.heap.size V5 w21_5 := B4.grown hg B4.size (fun q e => (World.ownsRow.lt G4 q e).1)
                      have X5 := heap_keep hg X4 NX4
                      have NX5 := at_ne hat NX4 (heap_lt X4)
                      have O5 := heap_keep hg O4 N14
                      have N15 := at_ne hat N14 (heap_lt O4)
                      clear hg hat
                      refine hK.out _ _ B5 (fun hHeld => ?_)
                      clear hK K
                      try simp only [Act.put, List.setIfInBounds_toArray, List.set_cons_zero, List.set_cons_succ]
                      refine held_take 7 (v := _) rfl (by kernel_rfl) (by kernel_rfl) (by kernel_rfl) (by rfl) (by assumption) (fun w' hSw => by
                        skip
                        go_simp
                        try with_reducible rfl) ?_
                      try simp only [Act.put, List.setIfInBounds_toArray, List.set_cons_zero, List.set_cons_succ]
                      refine wpAnyH_ready (rs := [9]) (by kernel_rfl) (by simp) ?_
                      refine held_cons rfl (by rfl) (fun K hK => ?_) ?_
                      · unfold Oper.wp
                        have hz := heap_cells X5
                        have hzf := heap_frozen X5
                        go_simp
                        refine hK.out _ _ (B5.trans (set4_below (w21_1.heap.size) (by first | exact Nat.le_refl _ | exact BX) _ _ _ _)) (fun hHeld => ?_)
                        clear hK K
                        try simp only [Act.put, List.setIfInBounds_toArray, List.set_cons_zero, List.set_cons_succ]
                        refine wpAnyH_done (by kernel_rfl) ?_ _
                        show R21 _ _
                        rw [HR21.out]
                        have eL : x.f3.length + (1) = (x.f3 ++ [x]).length := by simp; try omega
                        have eF : cs.flatten ++ [Value.int .u8 x.f0, .int .i64 x.f1, .string x.f2, .slice (some ad) x.f3.length c] = (cs ++ [[Value.int .u8 x.f0, .int .i64 x.f1, .string x.f2, .slice (some ad) x.f3.length c]]).flatten := by simp
                        have hB4 : Below V5.heap.size V5 (put4 w21_5 (w21_1.heap.size) (.int .u8 47) (.int .i64 0) (.string ⟨#[]⟩) (.slice A21_4 (x.f3.length + (1)) c21_4)) := B5.trans (set4_below (w21_1.heap.size) (by first | exact Nat.le_refl _ | exact BX) _ _ _ _)
                        have hG4 : (put4 w21_5 (w21_1.heap.size) (.int .u8 47) (.int .i64 0) (.string ⟨#[]⟩) (.slice A21_4 (x.f3.length + (1)) c21_4)).ownsRow V5.heap.size 24 4 (.slice A21_4 (x.f3.length + (1)) c21_4) (x.f3.length + (1)) (cs.flatten ++ [Value.int .u8 x.f0, .int .i64 x.f1, .string x.f2, .slice (some ad) x.f3.length c]) := own_keep G5 (fun g e => put4_far _ _ _ (fun h => NX5 (by rw [e, h])) _ _ _ _)
                        rw [eF] at hG4
                        have hAt : At (put4 w21_5 (w21_1.heap.size) (.int .u8 47) (.int .i64 0) (.string ⟨#[]⟩) (.slice A21_4 (x.f3.length + (1)) c21_4)) ⟨47, 0, ⟨#[]⟩, x.f3 ++ [x]⟩ _ _ := row_tree hG4 ((fun h => (HRW.out.below ((HBV5.out.trans (h.mono HBV5.out.size)))).append (RowOf.single (HA.out.below ((HBV5.out.trans (h.mono HBV5.out.size)))))) hB4) eL (by omega) 47 0 ⟨#[]⟩
                        have hcl : ∀ j, (put4 w21_5 (w21_1.heap.size) (.int .u8 47) (.int .i64 0) (.string ⟨#[]⟩) (.slice A21_4 (x.f3.length + (1)) c21_4)).cell? ⟨w21_1.heap.size, j, none⟩ = #[Value.int .u8 47, .int .i64 0, .string ⟨#[]⟩, .slice A21_4 (x.f3 ++ [x]).length c21_4][j]? := fun j => by rw [← eL]; exact set4 _ _ hz _ _ _ _ j
                        unfold put4 at hcl hAt
                        exact ⟨w21_1.heap.size, _, _, _, _, _, _, _, rfl, hHeld, (by first | exact Nat.le_refl _ | exact BX), hcl, hAt⟩
                      exact AllReadyH.nil
                    exact AllReadyH.nil
                  exact AllReadyH.nil
                exact AllReadyH.nil
              exact AllReadyH.nil
            refine held_cons rfl (by rfl) (fun K hK => ?_) ?_
            · unfold Oper.wp
              go_simp
              refine hK.out _ _ (hHeld.alloc hHeld.size _) (fun hHeld => ?_)
              clear hK K
              try simp only [Act.put, List.setIfInBounds_toArray, List.set_cons_zero, List.set_cons_succ]
              refine held_world (fun W' => Below V5.heap.size V5 W' ∧ W'.heap[V5.heap.size]? = some (.cells #[.int .u8 x.f0, .int .i64 x.f1, .string x.f2, .slice (some ad) x.f3.length c] 24)) ⟨hHeld, World.alloc_heap_new _ _⟩ (fun w21_1 hf => ?_)
              obtain ⟨B1, O1⟩ := hf
              clear hHeld
              have hHeld := B1
              refine wpAnyH_ready (rs := [0, 8]) (by kernel_rfl) (by simp) ?_
              refine held_cons rfl (by rfl) (fun K hK => ?_) ?_
              · unfold Oper.wp
                go_simp
                refine hK.out _ _ (hHeld.alloc hHeld.size _) (fun hHeld => ?_)
                clear hK K
                try simp only [Act.put, List.setIfInBounds_toArray, List.set_cons_zero, List.set_cons_succ]
                refine held_world (fun W' => Below V5.heap.size V5 W' ∧ W'.heap[V5.heap.size]? = some (.cells #[.int .u8 x.f0, .int .i64 x.f1, .string x.f2, .slice (some ad) x.f3.length c] 24) ∧ W'.ownsRow V5.heap.size 24 4 (.slice (some ⟨w21_1.heap.size, 0, none⟩) 0 0) (0) ([]) ∧ (.slice (some ⟨w21_1.heap.size, 0, none⟩) 0 0 : Value).ownBlock ≠ some (V5.heap.size)) ⟨hHeld, heap_alloc O1, World.ownsRow_made _ #[] 0 B1.size (Nat.zero_le _) rfl, (fun e => by have := heap_lt O1; simp [Value.ownBlock] at e; (try simp at this); omega)⟩ (fun w21_2 hf => ?_)
                obtain ⟨B2, O2, G2, N12⟩ := hf
                clear hHeld
                have hHeld := B2
                refine wpAnyH_ready (rs := [3, 8]) (by kernel_rfl) (by simp) ?_
                refine held_cons rfl (by rfl) (fun K hK => ?_) ?_
                · refine wp_append_at (.tmp 81) (.tmp 83) 22 rfl V5.heap.size 24 (.agg #[.int .u8 0, .int .i64 0, .string ⟨#[]⟩, .slice none 0 0]) 4 56 Tryd.underlying22 info24 rfl (by decide) _ _ _ ([]) rfl G2 _ (x.f3.length) _ (cs.flatten) rfl (NL3.out) ((NW3.out _ ((HBV5.out.trans (B2.mono HBV5.out.size))))) (NO3.out) (x.f3.length) (by first | rfl | exact Nat.zero_add _) (cs.flatten) (by first | rfl | exact List.nil_append _) (by omega) (by decide) B2.size ?_
                  intro A21_2 c21_2 w21_3 G3 hg hat
                  have B3 : Below V5.heap.size V5 w21_3 := B2.grown hg B2.size (fun q e => (World.ownsRow.lt G2 q e).1)
                  have O3 := heap_keep hg O2 N12
                  have N13 := at_ne hat N12 (heap_lt O2)
                  clear hg hat
                  refine hK.out _ _ B3 (fun hHeld => ?_)
                  clear hK K
                  try simp only [Act.put, List.setIfInBounds_toArray, List.set_cons_zero, List.set_cons_succ]
                  refine wpAnyH_ready (rs := [6, 8]) (by kernel_rfl) (by simp) ?_
                  refine held_cons rfl (by rfl) (fun K hK => ?_) ?_
                  · refine wp_append_at (.tmp 84) (.tmp 86) 22 rfl V5.heap.size 24 (.agg #[.int .u8 0, .int .i64 0, .string ⟨#[]⟩, .slice none 0 0]) 4 56 Tryd.underlying22 info24 rfl (by decide) _ _ _ (cs.flatten) rfl G3 _ (1) _ ([Value.int .u8 x.f0, .int .i64 x.f1, .string x.f2, .slice (some ad) x.f3.length c]) rfl (rfl) ((World.news_of_block O3)) ((by intro u' hu'; simp at hu'; rcases hu' with rfl | rfl | rfl | rfl <;> rfl)) (x.f3.length + (1)) (by first | rfl | exact Nat.zero_add _) (cs.flatten ++ [Value.int .u8 x.f0, .int .i64 x.f1, .string x.f2, .slice (some ad) x.f3.length c]) (by first | rfl | exact List.nil_append _) (by omega) (by decide) B3.size ?_
                    intro A21_3 c21_3 w21_4 G4 hg hat
                    have B4 : Below V5.heap.size V5 w21_4 := B3.grown hg B3.size (fun q e => (World.ownsRow.lt G3 q e).1)
                    have O4 := heap_keep hg O3 N13
                    have N14 := at_ne hat N13 (heap_lt O3)
                    clear hg hat
                    refine hK.out _ _ B4 (fun hHeld => ?_)
                    clear hK K
                    try simp only [Act.put, List.setIfInBounds_toArray, List.set_cons_zero, List.set_cons_succ]
                    refine held_take 7 (v := _) rfl (by kernel_rfl) (by kernel_rfl) (by kernel_rfl) (by rfl) (by assumption) (fun w' hSw => by
                      skip
                      go_simp
                      try with_reducible rfl) ?_
                    try simp only [Act.put, List.setIfInBounds_toArray, List.set_cons_zero, List.set_cons_succ]
                    refine wpAnyH_ready (rs := [8]) (by kernel_rfl) (by simp) ?_
                    refine held_cons rfl (by rfl) (fun K hK => ?_) ?_
                    · unfold Oper.wp
                      go_simp
                      refine hK.out _ _ (hHeld.alloc hHeld.size _) (fun hHeld => ?_)
                      clear hK K
                      try simp only [Act.put, List.setIfInBounds_toArray, List.set_cons_zero, List.set_cons_succ]
                      have BX := B4.size
                      refine held_world (fun W' => Below V5.heap.size V5 W' ∧ W'.heap[w21_4.heap.size]? = some (.cells #[.int .u8 0, .int .i64 0, .string ⟨#[]⟩, .slice none 0 0] 24) ∧ W'.heap[V5.heap.size]? = some (.cells #[.int .u8 x.f0, .int .i64 x.f1, .string x.f2, .slice (some ad) x.f3.length c] 24) ∧ W'.ownsRow V5.heap.size 24 4 (.slice A21_3 (x.f3.length + (1)) c21_3) (x.f3.length + (1)) (cs.flatten ++ [Value.int .u8 x.f0, .int .i64 x.f1, .string x.f2, .slice (some ad) x.f3.length c]) ∧ (.slice A21_3 (x.f3.length + (1)) c21_3 : Value).ownBlock ≠ some (w21_4.heap.size) ∧ (.slice A21_3 (x.f3.length + (1)) c21_3 : Value).ownBlock ≠ some (V5.heap.size)) ⟨hHeld, World.alloc_heap_new _ _, heap_alloc O4, World.ownsRow.alloc G4 _, own_ne G4, N14⟩ (fun w21_5 hf => ?_)
                      obtain ⟨B5, X5, O5, G5, NX5, N15⟩ := hf
                      clear hHeld
                      have hHeld := B5
                      refine wpAnyH_ready (rs := [9]) (by kernel_rfl) (by simp) ?_
                      refine held_cons rfl (by rfl) (fun K hK => ?_) ?_
                      · unfold Oper.wp
                        have hz := heap_cells X5
                        have hzf := heap_frozen X5
                        go_simp
                        refine hK.out _ _ (B5.trans (set4_below (w21_4.heap.size) (by first | exact Nat.le_refl _ | exact BX) _ _ _ _)) (fun hHeld => ?_)
                        clear hK K
                        try simp only [Act.put, List.setIfInBounds_toArray, List.set_cons_zero, List.set_cons_succ]
                        refine wpAnyH_done (by kernel_rfl) ?_ _
                        show R21 _ _
                        rw [HR21.out]
                        have eL : x.f3.length + (1) = (x.f3 ++ [x]).length := by simp; try omega
                        have eF : cs.flatten ++ [Value.int .u8 x.f0, .int .i64 x.f1, .string x.f2, .slice (some ad) x.f3.length c] = (cs ++ [[Value.int .u8 x.f0, .int .i64 x.f1, .string x.f2, .slice (some ad) x.f3.length c]]).flatten := by simp
                        have hB4 : Below V5.heap.size V5 (put4 w21_5 (w21_4.heap.size) (.int .u8 47) (.int .i64 0) (.string ⟨#[]⟩) (.slice A21_3 (x.f3.length + (1)) c21_3)) := B5.trans (set4_below (w21_4.heap.size) (by first | exact Nat.le_refl _ | exact BX) _ _ _ _)
                        have hG4 : (put4 w21_5 (w21_4.heap.size) (.int .u8 47) (.int .i64 0) (.string ⟨#[]⟩) (.slice A21_3 (x.f3.length + (1)) c21_3)).ownsRow V5.heap.size 24 4 (.slice A21_3 (x.f3.length + (1)) c21_3) (x.f3.length + (1)) (cs.flatten ++ [Value.int .u8 x.f0, .int .i64 x.f1, .string x.f2, .slice (some ad) x.f3.length c]) := own_keep G5 (fun g e => put4_far _ _ _ (fun h => NX5 (by rw [e, h])) _ _ _ _)
                        rw [eF] at hG4
                        have hAt : At (put4 w21_5 (w21_4.heap.size) (.int .u8 47) (.int .i64 0) (.string ⟨#[]⟩) (.slice A21_3 (x.f3.length + (1)) c21_3)) ⟨47, 0, ⟨#[]⟩, x.f3 ++ [x]⟩ _ _ := row_tree hG4 ((fun h => (HRW.out.below ((HBV5.out.trans (h.mono HBV5.out.size)))).append (RowOf.single (HA.out.below ((HBV5.out.trans (h.mono HBV5.out.size)))))) hB4) eL (by omega) 47 0 ⟨#[]⟩
                        have hcl : ∀ j, (put4 w21_5 (w21_4.heap.size) (.int .u8 47) (.int .i64 0) (.string ⟨#[]⟩) (.slice A21_3 (x.f3.length + (1)) c21_3)).cell? ⟨w21_4.heap.size, j, none⟩ = #[Value.int .u8 47, .int .i64 0, .string ⟨#[]⟩, .slice A21_3 (x.f3 ++ [x]).length c21_3][j]? := fun j => by rw [← eL]; exact set4 _ _ hz _ _ _ _ j
                        unfold put4 at hcl hAt
                        exact ⟨w21_4.heap.size, _, _, _, _, _, _, _, rfl, hHeld, (by first | exact Nat.le_refl _ | exact BX), hcl, hAt⟩
                      exact AllReadyH.nil
                    exact AllReadyH.nil
                  refine held_cons rfl (by rfl) (fun K hK => ?_) ?_
                  · unfold Oper.wp
                    go_simp
                    refine hK.out _ _ (hHeld.alloc hHeld.size _) (fun hHeld => ?_)
                    clear hK K
                    try simp only [Act.put, List.setIfInBounds_toArray, List.set_cons_zero, List.set_cons_succ]
                    have BX := B3.size
                    refine held_world (fun W' => Below V5.heap.size V5 W' ∧ W'.heap[w21_3.heap.size]? = some (.cells #[.int .u8 0, .int .i64 0, .string ⟨#[]⟩, .slice none 0 0] 24) ∧ W'.heap[V5.heap.size]? = some (.cells #[.int .u8 x.f0, .int .i64 x.f1, .string x.f2, .slice (some ad) x.f3.length c] 24) ∧ W'.ownsRow V5.heap.size 24 4 (.slice A21_2 (x.f3.length) c21_2) (x.f3.length) (cs.flatten) ∧ (.slice A21_2 (x.f3.length) c21_2 : Value).ownBlock ≠ some (w21_3.heap.size) ∧ (.slice A21_2 (x.f3.length) c21_2 : Value).ownBlock ≠ some (V5.heap.size)) ⟨hHeld, World.alloc_heap_new _ _, heap_alloc O3, World.ownsRow.alloc G3 _, own_ne G3, N13⟩ (fun w21_4 hf => ?_)
                    obtain ⟨B4, X4, O4, G4, NX4, N14⟩ := hf
                    clear hHeld
                    have hHeld := B4
                    refine wpAnyH_ready (rs := [6]) (by kernel_rfl) (by simp) ?_
                    refine held_cons rfl (by rfl) (fun K hK => ?_) ?_
                    · refine wp_append_at (.tmp 84) (.tmp 86) 22 rfl V5.heap.size 24 (.agg #[.int .u8 0, .int .i64 0, .string ⟨#[]⟩, .slice none 0 0]) 4 56 Tryd.underlying22 info24 rfl (by decide) _ _ _ (cs.flatten) rfl G4 _ (1) _ ([Value.int .u8 x.f0, .int .i64 x.f1, .string x.f2, .slice (some ad) x.f3.length c]) rfl (rfl) ((World.news_of_block O4)) ((by intro u' hu'; simp at hu'; rcases hu' with rfl | rfl | rfl | rfl <;> rfl)) (x.f3.length + (1)) (by first | rfl | exact Nat.zero_add _) (cs.flatten ++ [Value.int .u8 x.f0, .int .i64 x.f1, .string x.f2, .slice (some ad) x.f3.length c]) (by first | rfl | exact List.nil_append _) (by omega) (by decide) B4.size ?_
                      intro A21_4 c21_4 w21_5 G5 hg hat
                      have B5 : Below V5.heap.size V5 w21_5 := B4.grown hg B4.size (fun q e => (World.ownsRow.lt G4 q e).1)
                      have X5 := heap_keep hg X4 NX4
                      have NX5 := at_ne hat NX4 (heap_lt X4)
                      have O5 := heap_keep hg O4 N14
                      have N15 := at_ne hat N14 (heap_lt O4)
                      clear hg hat
                      refine hK.out _ _ B5 (fun hHeld => ?_)
                      clear hK K
                      try simp only [Act.put, List.setIfInBounds_toArray, List.set_cons_zero, List.set_cons_succ]
                      refine held_take 7 (v := _) rfl (by kernel_rfl) (by kernel_rfl) (by kernel_rfl) (by rfl) (by assumption) (fun w' hSw => by
                        skip
                        go_simp
                        try with_reducible rfl) ?_
                      try simp only [Act.put, List.setIfInBounds_toArray, List.set_cons_zero, List.set_cons_succ]
                      refine wpAnyH_ready (rs := [9]) (by kernel_rfl) (by simp) ?_
                      refine held_cons rfl (by rfl) (fun K hK => ?_) ?_
                      · unfold Oper.wp
                        have hz := heap_cells X5
                        have hzf := heap_frozen X5
                        go_simp
                        refine hK.out _ _ (B5.trans (set4_below (w21_3.heap.size) (by first | exact Nat.le_refl _ | exact BX) _ _ _ _)) (fun hHeld => ?_)
                        clear hK K
                        try simp only [Act.put, List.setIfInBounds_toArray, List.set_cons_zero, List.set_cons_succ]
                        refine wpAnyH_done (by kernel_rfl) ?_ _
                        show R21 _ _
                        rw [HR21.out]
                        have eL : x.f3.length + (1) = (x.f3 ++ [x]).length := by simp; try omega
                        have eF : cs.flatten ++ [Value.int .u8 x.f0, .int .i64 x.f1, .string x.f2, .slice (some ad) x.f3.length c] = (cs ++ [[Value.int .u8 x.f0, .int .i64 x.f1, .string x.f2, .slice (some ad) x.f3.length c]]).flatten := by simp
                        have hB4 : Below V5.heap.size V5 (put4 w21_5 (w21_3.heap.size) (.int .u8 47) (.int .i64 0) (.string ⟨#[]⟩) (.slice A21_4 (x.f3.length + (1)) c21_4)) := B5.trans (set4_below (w21_3.heap.size) (by first | exact Nat.le_refl _ | exact BX) _ _ _ _)
                        have hG4 : (put4 w21_5 (w21_3.heap.size) (.int .u8 47) (.int .i64 0) (.string ⟨#[]⟩) (.slice A21_4 (x.f3.length + (1)) c21_4)).ownsRow V5.heap.size 24 4 (.slice A21_4 (x.f3.length + (1)) c21_4) (x.f3.length + (1)) (cs.flatten ++ [Value.int .u8 x.f0, .int .i64 x.f1, .string x.f2, .slice (some ad) x.f3.length c]) := own_keep G5 (fun g e => put4_far _ _ _ (fun h => NX5 (by rw [e, h])) _ _ _ _)
                        rw [eF] at hG4
                        have hAt : At (put4 w21_5 (w21_3.heap.size) (.int .u8 47) (.int .i64 0) (.string ⟨#[]⟩) (.slice A21_4 (x.f3.length + (1)) c21_4)) ⟨47, 0, ⟨#[]⟩, x.f3 ++ [x]⟩ _ _ := row_tree hG4 ((fun h => (HRW.out.below ((HBV5.out.trans (h.mono HBV5.out.size)))).append (RowOf.single (HA.out.below ((HBV5.out.trans (h.mono HBV5.out.size)))))) hB4) eL (by omega) 47 0 ⟨#[]⟩
                        have hcl : ∀ j, (put4 w21_5 (w21_3.heap.size) (.int .u8 47) (.int .i64 0) (.string ⟨#[]⟩) (.slice A21_4 (x.f3.length + (1)) c21_4)).cell? ⟨w21_3.heap.size, j, none⟩ = #[Value.int .u8 47, .int .i64 0, .string ⟨#[]⟩, .slice A21_4 (x.f3 ++ [x]).length c21_4][j]? := fun j => by rw [← eL]; exact set4 _ _ hz _ _ _ _ j
                        unfold put4 at hcl hAt
                        exact ⟨w21_3.heap.size, _, _, _, _, _, _, _, rfl, hHeld, (by first | exact Nat.le_refl _ | exact BX), hcl, hAt⟩
                      exact AllReadyH.nil
                    exact AllReadyH.nil
                  exact AllReadyH.nil
                refine held_cons rfl (by rfl) (fun K hK => ?_) ?_
                · unfold Oper.wp
                  go_simp
                  refine hK.out _ _ (hHeld.alloc hHeld.size _) (fun hHeld => ?_)
                  clear hK K
                  try simp only [Act.put, List.setIfInBounds_toArray, List.set_cons_zero, List.set_cons_succ]
                  have BX := B2.size
                  refine held_world (fun W' => Below V5.heap.size V5 W' ∧ W'.heap[w21_2.heap.size]? = some (.cells #[.int .u8 0, .int .i64 0, .string ⟨#[]⟩, .slice none 0 0] 24) ∧ W'.heap[V5.heap.size]? = some (.cells #[.int .u8 x.f0, .int .i64 x.f1, .string x.f2, .slice (some ad) x.f3.length c] 24) ∧ W'.ownsRow V5.heap.size 24 4 (.slice (some ⟨w21_1.heap.size, 0, none⟩) 0 0) (0) ([]) ∧ (.slice (some ⟨w21_1.heap.size, 0, none⟩) 0 0 : Value).ownBlock ≠ some (w21_2.heap.size) ∧ (.slice (some ⟨w21_1.heap.size, 0, none⟩) 0 0 : Value).ownBlock ≠ some (V5.heap.size)) ⟨hHeld, World.alloc_heap_new _ _, heap_alloc O2, World.ownsRow.alloc G2 _, own_ne G2, N12⟩ (fun w21_3 hf => ?_)
                  obtain ⟨B3, X3, O3, G3, NX3, N13⟩ := hf
                  clear hHeld
                  have hHeld := B3
                  refine wpAnyH_ready (rs := [3]) (by kernel_rfl) (by simp) ?_
                  refine held_cons rfl (by rfl) (fun K hK => ?_) ?_
                  · refine wp_append_at (.tmp 81) (.tmp 83) 22 rfl V5.heap.size 24 (.agg #[.int .u8 0, .int .i64 0, .string ⟨#[]⟩, .slice none 0 0]) 4 56 Tryd.underlying22 info24 rfl (by decide) _ _ _ ([]) rfl G3 _ (x.f3.length) _ (cs.flatten) rfl (NL3.out) ((NW3.out _ ((HBV5.out.trans (B3.mono HBV5.out.size))))) (NO3.out) (x.f3.length) (by first | rfl | exact Nat.zero_add _) (cs.flatten) (by first | rfl | exact List.nil_append _) (by omega) (by decide) B3.size ?_
                    intro A21_3 c21_3 w21_4 G4 hg hat
                    have B4 : Below V5.heap.size V5 w21_4 := B3.grown hg B3.size (fun q e => (World.ownsRow.lt G3 q e).1)
                    have X4 := heap_keep hg X3 NX3
                    have NX4 := at_ne hat NX3 (heap_lt X3)
                    have O4 := heap_keep hg O3 N13
                    have N14 := at_ne hat N13 (heap_lt O3)
                    clear hg hat
                    refine hK.out _ _ B4 (fun hHeld => ?_)
                    clear hK K
                    try simp only [Act.put, List.setIfInBounds_toArray, List.set_cons_zero, List.set_cons_succ]
                    refine wpAnyH_ready (rs := [6]) (by kernel_rfl) (by simp) ?_
                    refine held_cons rfl (by rfl) (fun K hK => ?_) ?_
                    · refine wp_append_at (.tmp 84) (.tmp 86) 22 rfl V5.heap.size 24 (.agg #[.int .u8 0, .int .i64 0, .string ⟨#[]⟩, .slice none 0 0]) 4 56 Tryd.underlying22 info24 rfl (by decide) _ _ _ (cs.flatten) rfl G4 _ (1) _ ([Value.int .u8 x.f0, .int .i64 x.f1, .string x.f2, .slice (some ad) x.f3.length c]) rfl (rfl) ((World.news_of_block O4)) ((by intro u' hu'; simp at hu'; rcases hu' with rfl | rfl | rfl | rfl <;> rfl)) (x.f3.length + (1)) (by first | rfl | exact Nat.zero_add _) (cs.flatten ++ [Value.int .u8 x.f0, .int .i64 x.f1, .string x.f2, .slice (some ad) x.f3.length c]) (by first | rfl | exact List.nil_append _) (by omega) (by decide) B4.size ?_
                      intro A21_4 c21_4 w21_5 G5 hg hat
                      have B5 : Below V5.heap.size V5 w21_5 := B4.grown hg B4.size (fun q e => (World.ownsRow.lt G4 q e).1)
                      have X5 := heap_keep hg X4 NX4
                      have NX5 := at_ne hat NX4 (heap_lt X4)
                      have O5 := heap_keep hg O4 N14
                      have N15 := at_ne hat N14 (heap_lt O4)
                      clear hg hat
                      refine hK.out _ _ B5 (fun hHeld => ?_)
                      clear hK K
                      try simp only [Act.put, List.setIfInBounds_toArray, List.set_cons_zero, List.set_cons_succ]
                      refine held_take 7 (v := _) rfl (by kernel_rfl) (by kernel_rfl) (by kernel_rfl) (by rfl) (by assumption) (fun w' hSw => by
                        skip
                        go_simp
                        try with_reducible rfl) ?_
                      try simp only [Act.put, List.setIfInBounds_toArray, List.set_cons_zero, List.set_cons_succ]
                      refine wpAnyH_ready (rs := [9]) (by kernel_rfl) (by simp) ?_
                      refine held_cons rfl (by rfl) (fun K hK => ?_) ?_
                      · unfold Oper.wp
                        have hz := heap_cells X5
                        have hzf := heap_frozen X5
                        go_simp
                        refine hK.out _ _ (B5.trans (set4_below (w21_2.heap.size) (by first | exact Nat.le_refl _ | exact BX) _ _ _ _)) (fun hHeld => ?_)
                        clear hK K
                        try simp only [Act.put, List.setIfInBounds_toArray, List.set_cons_zero, List.set_cons_succ]
                        refine wpAnyH_done (by kernel_rfl) ?_ _
                        show R21 _ _
                        rw [HR21.out]
                        have eL : x.f3.length + (1) = (x.f3 ++ [x]).length := by simp; try omega
                        have eF : cs.flatten ++ [Value.int .u8 x.f0, .int .i64 x.f1, .string x.f2, .slice (some ad) x.f3.length c] = (cs ++ [[Value.int .u8 x.f0, .int .i64 x.f1, .string x.f2, .slice (some ad) x.f3.length c]]).flatten := by simp
                        have hB4 : Below V5.heap.size V5 (put4 w21_5 (w21_2.heap.size) (.int .u8 47) (.int .i64 0) (.string ⟨#[]⟩) (.slice A21_4 (x.f3.length + (1)) c21_4)) := B5.trans (set4_below (w21_2.heap.size) (by first | exact Nat.le_refl _ | exact BX) _ _ _ _)
                        have hG4 : (put4 w21_5 (w21_2.heap.size) (.int .u8 47) (.int .i64 0) (.string ⟨#[]⟩) (.slice A21_4 (x.f3.length + (1)) c21_4)).ownsRow V5.heap.size 24 4 (.slice A21_4 (x.f3.length + (1)) c21_4) (x.f3.length + (1)) (cs.flatten ++ [Value.int .u8 x.f0, .int .i64 x.f1, .string x.f2, .slice (some ad) x.f3.length c]) := own_keep G5 (fun g e => put4_far _ _ _ (fun h => NX5 (by rw [e, h])) _ _ _ _)
                        rw [eF] at hG4
                        have hAt : At (put4 w21_5 (w21_2.heap.size) (.int .u8 47) (.int .i64 0) (.string ⟨#[]⟩) (.slice A21_4 (x.f3.length + (1)) c21_4)) ⟨47, 0, ⟨#[]⟩, x.f3 ++ [x]⟩ _ _ := row_tree hG4 ((fun h => (HRW.out.below ((HBV5.out.trans (h.mono HBV5.out.size)))).append (RowOf.single (HA.out.below ((HBV5.out.trans (h.mono HBV5.out.size)))))) hB4) eL (by omega) 47 0 ⟨#[]⟩
                        have hcl : ∀ j, (put4 w21_5 (w21_2.heap.size) (.int .u8 47) (.int .i64 0) (.string ⟨#[]⟩) (.slice A21_4 (x.f3.length + (1)) c21_4)).cell? ⟨w21_2.heap.size, j, none⟩ = #[Value.int .u8 47, .int .i64 0, .string ⟨#[]⟩, .slice A21_4 (x.f3 ++ [x]).length c21_4][j]? := fun j => by rw [← eL]; exact set4 _ _ hz _ _ _ _ j
                        unfold put4 at hcl hAt
                        exact ⟨w21_2.heap.size, _, _, _, _, _, _, _, rfl, hHeld, (by first | exact Nat.le_refl _ | exact BX), hcl, hAt⟩
                      exact AllReadyH.nil
                    exact AllReadyH.nil
                  exact AllReadyH.nil
                exact AllReadyH.nil
              refine held_cons rfl (by rfl) (fun K hK => ?_) ?_
              · unfold Oper.wp
                go_simp
                refine hK.out _ _ (hHeld.alloc hHeld.size _) (fun hHeld => ?_)
                clear hK K
                try simp only [Act.put, List.setIfInBounds_toArray, List.set_cons_zero, List.set_cons_succ]
                have BX := B1.size
                refine held_world (fun W' => Below V5.heap.size V5 W' ∧ W'.heap[w21_1.heap.size]? = some (.cells #[.int .u8 0, .int .i64 0, .string ⟨#[]⟩, .slice none 0 0] 24) ∧ W'.heap[V5.heap.size]? = some (.cells #[.int .u8 x.f0, .int .i64 x.f1, .string x.f2, .slice (some ad) x.f3.length c] 24)) ⟨hHeld, World.alloc_heap_new _ _, heap_alloc O1⟩ (fun w21_2 hf => ?_)
                obtain ⟨B2, X2, O2⟩ := hf
                clear hHeld
                have hHeld := B2
                refine wpAnyH_ready (rs := [0]) (by kernel_rfl) (by simp) ?_
                refine held_cons rfl (by rfl) (fun K hK => ?_) ?_
                · unfold Oper.wp
                  go_simp
                  refine hK.out _ _ (hHeld.alloc hHeld.size _) (fun hHeld => ?_)
                  clear hK K
                  try simp only [Act.put, List.setIfInBounds_toArray, List.set_cons_zero, List.set_cons_succ]
                  refine held_world (fun W' => Below V5.heap.size V5 W' ∧ W'.heap[w21_1.heap.size]? = some (.cells #[.int .u8 0, .int .i64 0, .string ⟨#[]⟩, .slice none 0 0] 24) ∧ W'.heap[V5.heap.size]? = some (.cells #[.int .u8 x.f0, .int .i64 x.f1, .string x.f2, .slice (some ad) x.f3.length c] 24) ∧ W'.ownsRow V5.heap.size 24 4 (.slice (some ⟨w21_2.heap.size, 0, none⟩) 0 0) (0) ([]) ∧ (.slice (some ⟨w21_2.heap.size, 0, none⟩) 0 0 : Value).ownBlock ≠ some (w21_1.heap.size) ∧ (.slice (some ⟨w21_2.heap.size, 0, none⟩) 0 0 : Value).ownBlock ≠ some (V5.heap.size)) ⟨hHeld, heap_alloc X2, heap_alloc O2, World.ownsRow_made _ #[] 0 B2.size (Nat.zero_le _) rfl, (fun e => by have := heap_lt X2; simp [Value.ownBlock] at e; (try simp at this); omega), (fun e => by have := heap_lt O2; simp [Value.ownBlock] at e; (try simp at this); omega)⟩ (fun w21_3 hf => ?_)
                  obtain ⟨B3, X3, O3, G3, NX3, N13⟩ := hf
                  clear hHeld
                  have hHeld := B3
                  refine wpAnyH_ready (rs := [3]) (by kernel_rfl) (by simp) ?_
                  refine held_cons rfl (by rfl) (fun K hK => ?_) ?_
                  · refine wp_append_at (.tmp 81) (.tmp 83) 22 rfl V5.heap.size 24 (.agg #[.int .u8 0, .int .i64 0, .string ⟨#[]⟩, .slice none 0 0]) 4 56 Tryd.underlying22 info24 rfl (by decide) _ _ _ ([]) rfl G3 _ (x.f3.length) _ (cs.flatten) rfl (NL3.out) ((NW3.out _ ((HBV5.out.trans (B3.mono HBV5.out.size))))) (NO3.out) (x.f3.length) (by first | rfl | exact Nat.zero_add _) (cs.flatten) (by first | rfl | exact List.nil_append _) (by omega) (by decide) B3.size ?_
                    intro A21_3 c21_3 w21_4 G4 hg hat
                    have B4 : Below V5.heap.size V5 w21_4 := B3.grown hg B3.size (fun q e => (World.ownsRow.lt G3 q e).1)
                    have X4 := heap_keep hg X3 NX3
                    have NX4 := at_ne hat NX3 (heap_lt X3)
                    have O4 := heap_keep hg O3 N13
                    have N14 := at_ne hat N13 (heap_lt O3)
                    clear hg hat
                    refine hK.out _ _ B4 (fun hHeld => ?_)
                    clear hK K
                    try simp only [Act.put, List.setIfInBounds_toArray, List.set_cons_zero, List.set_cons_succ]
                    refine wpAnyH_ready (rs := [6]) (by kernel_rfl) (by simp) ?_
                    refine held_cons rfl (by rfl) (fun K hK => ?_) ?_
                    · refine wp_append_at (.tmp 84) (.tmp 86) 22 rfl V5.heap.size 24 (.agg #[.int .u8 0, .int .i64 0, .string ⟨#[]⟩, .slice none 0 0]) 4 56 Tryd.underlying22 info24 rfl (by decide) _ _ _ (cs.flatten) rfl G4 _ (1) _ ([Value.int .u8 x.f0, .int .i64 x.f1, .string x.f2, .slice (some ad) x.f3.length c]) rfl (rfl) ((World.news_of_block O4)) ((by intro u' hu'; simp at hu'; rcases hu' with rfl | rfl | rfl | rfl <;> rfl)) (x.f3.length + (1)) (by first | rfl | exact Nat.zero_add _) (cs.flatten ++ [Value.int .u8 x.f0, .int .i64 x.f1, .string x.f2, .slice (some ad) x.f3.length c]) (by first | rfl | exact List.nil_append _) (by omega) (by decide) B4.size ?_
                      intro A21_4 c21_4 w21_5 G5 hg hat
                      have B5 : Below V5.heap.size V5 w21_5 := B4.grown hg B4.size (fun q e => (World.ownsRow.lt G4 q e).1)
                      have X5 := heap_keep hg X4 NX4
                      have NX5 := at_ne hat NX4 (heap_lt X4)
                      have O5 := heap_keep hg O4 N14
                      have N15 := at_ne hat N14 (heap_lt O4)
                      clear hg hat
                      refine hK.out _ _ B5 (fun hHeld => ?_)
                      clear hK K
                      try simp only [Act.put, List.setIfInBounds_toArray, List.set_cons_zero, List.set_cons_succ]
                      refine held_take 7 (v := _) rfl (by kernel_rfl) (by kernel_rfl) (by kernel_rfl) (by rfl) (by assumption) (fun w' hSw => by
                        skip
                        go_simp
                        try with_reducible rfl) ?_
                      try simp only [Act.put, List.setIfInBounds_toArray, List.set_cons_zero, List.set_cons_succ]
                      refine wpAnyH_ready (rs := [9]) (by kernel_rfl) (by simp) ?_
                      refine held_cons rfl (by rfl) (fun K hK => ?_) ?_
                      · unfold Oper.wp
                        have hz := heap_cells X5
                        have hzf := heap_frozen X5
                        go_simp
                        refine hK.out _ _ (B5.trans (set4_below (w21_1.heap.size) (by first | exact Nat.le_refl _ | exact BX) _ _ _ _)) (fun hHeld => ?_)
                        clear hK K
                        try simp only [Act.put, List.setIfInBounds_toArray, List.set_cons_zero, List.set_cons_succ]
                        refine wpAnyH_done (by kernel_rfl) ?_ _
                        show R21 _ _
                        rw [HR21.out]
                        have eL : x.f3.length + (1) = (x.f3 ++ [x]).length := by simp; try omega
                        have eF : cs.flatten ++ [Value.int .u8 x.f0, .int .i64 x.f1, .string x.f2, .slice (some ad) x.f3.length c] = (cs ++ [[Value.int .u8 x.f0, .int .i64 x.f1, .string x.f2, .slice (some ad) x.f3.length c]]).flatten := by simp
                        have hB4 : Below V5.heap.size V5 (put4 w21_5 (w21_1.heap.size) (.int .u8 47) (.int .i64 0) (.string ⟨#[]⟩) (.slice A21_4 (x.f3.length + (1)) c21_4)) := B5.trans (set4_below (w21_1.heap.size) (by first | exact Nat.le_refl _ | exact BX) _ _ _ _)
                        have hG4 : (put4 w21_5 (w21_1.heap.size) (.int .u8 47) (.int .i64 0) (.string ⟨#[]⟩) (.slice A21_4 (x.f3.length + (1)) c21_4)).ownsRow V5.heap.size 24 4 (.slice A21_4 (x.f3.length + (1)) c21_4) (x.f3.length + (1)) (cs.flatten ++ [Value.int .u8 x.f0, .int .i64 x.f1, .string x.f2, .slice (some ad) x.f3.length c]) := own_keep G5 (fun g e => put4_far _ _ _ (fun h => NX5 (by rw [e, h])) _ _ _ _)
                        rw [eF] at hG4
                        have hAt : At (put4 w21_5 (w21_1.heap.size) (.int .u8 47) (.int .i64 0) (.string ⟨#[]⟩) (.slice A21_4 (x.f3.length + (1)) c21_4)) ⟨47, 0, ⟨#[]⟩, x.f3 ++ [x]⟩ _ _ := row_tree hG4 ((fun h => (HRW.out.below ((HBV5.out.trans (h.mono HBV5.out.size)))).append (RowOf.single (HA.out.below ((HBV5.out.trans (h.mono HBV5.out.size)))))) hB4) eL (by omega) 47 0 ⟨#[]⟩
                        have hcl : ∀ j, (put4 w21_5 (w21_1.heap.size) (.int .u8 47) (.int .i64 0) (.string ⟨#[]⟩) (.slice A21_4 (x.f3.length + (1)) c21_4)).cell? ⟨w21_1.heap.size, j, none⟩ = #[Value.int .u8 47, .int .i64 0, .string ⟨#[]⟩, .slice A21_4 (x.f3 ++ [x]).length c21_4][j]? := fun j => by rw [← eL]; exact set4 _ _ hz _ _ _ _ j
                        unfold put4 at hcl hAt
                        exact ⟨w21_1.heap.size, _, _, _, _, _, _, _, rfl, hHeld, (by first | exact Nat.le_refl _ | exact BX), hcl, hAt⟩
                      exact AllReadyH.nil
                    exact AllReadyH.nil
                  exact AllReadyH.nil
                exact AllReadyH.nil
              exact AllReadyH.nil
            refine held_cons rfl (by rfl) (fun K hK => ?_) ?_
            · unfold Oper.wp
              go_simp
              refine hK.out _ _ (hHeld.alloc hHeld.size _) (fun hHeld => ?_)
              clear hK K
              try simp only [Act.put, List.setIfInBounds_toArray, List.set_cons_zero, List.set_cons_succ]
              have BX := B0.size
              refine held_world (fun W' => Below V5.heap.size V5 W' ∧ W'.heap[V5.heap.size]? = some (.cells #[.int .u8 0, .int .i64 0, .string ⟨#[]⟩, .slice none 0 0] 24)) ⟨hHeld, World.alloc_heap_new _ _⟩ (fun w21_1 hf => ?_)
              obtain ⟨B1, X1⟩ := hf
              clear hHeld
              have hHeld := B1
              refine wpAnyH_ready (rs := [0, 5]) (by kernel_rfl) (by simp) ?_
              refine held_cons rfl (by rfl) (fun K hK => ?_) ?_
              · unfold Oper.wp
                go_simp
                refine hK.out _ _ (hHeld.alloc hHeld.size _) (fun hHeld => ?_)
                clear hK K
                try simp only [Act.put, List.setIfInBounds_toArray, List.set_cons_zero, List.set_cons_succ]
                refine held_world (fun W' => Below V5.heap.size V5 W' ∧ W'.heap[V5.heap.size]? = some (.cells #[.int .u8 0, .int .i64 0, .string ⟨#[]⟩, .slice none 0 0] 24) ∧ W'.ownsRow V5.heap.size 24 4 (.slice (some ⟨w21_1.heap.size, 0, none⟩) 0 0) (0) ([]) ∧ (.slice (some ⟨w21_1.heap.size, 0, none⟩) 0 0 : Value).ownBlock ≠ some (V5.heap.size)) ⟨hHeld, heap_alloc X1, World.ownsRow_made _ #[] 0 B1.size (Nat.zero_le _) rfl, (fun e => by have := heap_lt X1; simp [Value.ownBlock] at e; (try simp at this); omega)⟩ (fun w21_2 hf => ?_)
                obtain ⟨B2, X2, G2, NX2⟩ := hf
                clear hHeld
                have hHeld := B2
                refine wpAnyH_ready (rs := [3, 5]) (by kernel_rfl) (by simp) ?_
                refine held_cons rfl (by rfl) (fun K hK => ?_) ?_
                · refine wp_append_at (.tmp 81) (.tmp 83) 22 rfl V5.heap.size 24 (.agg #[.int .u8 0, .int .i64 0, .string ⟨#[]⟩, .slice none 0 0]) 4 56 Tryd.underlying22 info24 rfl (by decide) _ _ _ ([]) rfl G2 _ (x.f3.length) _ (cs.flatten) rfl (NL3.out) ((NW3.out _ ((HBV5.out.trans (B2.mono HBV5.out.size))))) (NO3.out) (x.f3.length) (by first | rfl | exact Nat.zero_add _) (cs.flatten) (by first | rfl | exact List.nil_append _) (by omega) (by decide) B2.size ?_
                  intro A21_2 c21_2 w21_3 G3 hg hat
                  have B3 : Below V5.heap.size V5 w21_3 := B2.grown hg B2.size (fun q e => (World.ownsRow.lt G2 q e).1)
                  have X3 := heap_keep hg X2 NX2
                  have NX3 := at_ne hat NX2 (heap_lt X2)
                  clear hg hat
                  refine hK.out _ _ B3 (fun hHeld => ?_)
                  clear hK K
                  try simp only [Act.put, List.setIfInBounds_toArray, List.set_cons_zero, List.set_cons_succ]
                  refine wpAnyH_ready (rs := [5]) (by kernel_rfl) (by simp) ?_
                  refine held_cons rfl (by rfl) (fun K hK => ?_) ?_
                  · unfold Oper.wp
                    go_simp
                    refine hK.out _ _ (hHeld.alloc hHeld.size _) (fun hHeld => ?_)
                    clear hK K
                    try simp only [Act.put, List.setIfInBounds_toArray, List.set_cons_zero, List.set_cons_succ]
                    refine held_world (fun W' => Below V5.heap.size V5 W' ∧ W'.heap[V5.heap.size]? = some (.cells #[.int .u8 0, .int .i64 0, .string ⟨#[]⟩, .slice none 0 0] 24) ∧ W'.heap[w21_3.heap.size]? = some (.cells #[.int .u8 x.f0, .int .i64 x.f1, .string x.f2, .slice (some ad) x.f3.length c] 24) ∧ W'.ownsRow V5.heap.size 24 4 (.slice A21_2 (x.f3.length) c21_2) (x.f3.length) (cs.flatten) ∧ (.slice A21_2 (x.f3.length) c21_2 : Value).ownBlock ≠ some (V5.heap.size) ∧ (.slice A21_2 (x.f3.length) c21_2 : Value).ownBlock ≠ some (w21_3.heap.size)) ⟨hHeld, heap_alloc X3, World.alloc_heap_new _ _, World.ownsRow.alloc G3 _, NX3, own_ne G3⟩ (fun w21_4 hf => ?_)
                    obtain ⟨B4, X4, O4, G4, NX4, N14⟩ := hf
                    clear hHeld
                    have hHeld := B4
                    refine wpAnyH_ready (rs := [6]) (by kernel_rfl) (by simp) ?_
                    refine held_cons rfl (by rfl) (fun K hK => ?_) ?_
                    · refine wp_append_at (.tmp 84) (.tmp 86) 22 rfl V5.heap.size 24 (.agg #[.int .u8 0, .int .i64 0, .string ⟨#[]⟩, .slice none 0 0]) 4 56 Tryd.underlying22 info24 rfl (by decide) _ _ _ (cs.flatten) rfl G4 _ (1) _ ([Value.int .u8 x.f0, .int .i64 x.f1, .string x.f2, .slice (some ad) x.f3.length c]) rfl (rfl) ((World.news_of_block O4)) ((by intro u' hu'; simp at hu'; rcases hu' with rfl | rfl | rfl | rfl <;> rfl)) (x.f3.length + (1)) (by first | rfl | exact Nat.zero_add _) (cs.flatten ++ [Value.int .u8 x.f0, .int .i64 x.f1, .string x.f2, .slice (some ad) x.f3.length c]) (by first | rfl | exact List.nil_append _) (by omega) (by decide) B4.size ?_
                      intro A21_4 c21_4 w21_5 G5 hg hat
                      have B5 : Below V5.heap.size V5 w21_5 := B4.grown hg B4.size (fun q e => (World.ownsRow.lt G4 q e).1)
                      have X5 := heap_keep hg X4 NX4
                      have NX5 := at_ne hat NX4 (heap_lt X4)
                      have O5 := heap_keep hg O4 N14
                      have N15 := at_ne hat N14 (heap_lt O4)
                      clear hg hat
                      refine hK.out _ _ B5 (fun hHeld => ?_)
                      clear hK K
                      try simp only [Act.put, List.setIfInBounds_toArray, List.set_cons_zero, List.set_cons_succ]
                      refine held_take 7 (v := _) rfl (by kernel_rfl) (by kernel_rfl) (by kernel_rfl) (by rfl) (by assumption) (fun w' hSw => by
                        skip
                        go_simp
                        try with_reducible rfl) ?_
                      try simp only [Act.put, List.setIfInBounds_toArray, List.set_cons_zero, List.set_cons_succ]
                      refine wpAnyH_ready (rs := [9]) (by kernel_rfl) (by simp) ?_
                      refine held_cons rfl (by rfl) (fun K hK => ?_) ?_
                      · unfold Oper.wp
                        have hz := heap_cells X5
                        have hzf := heap_frozen X5
                        go_simp
                        refine hK.out _ _ (B5.trans (set4_below (V5.heap.size) (by first | exact Nat.le_refl _ | exact BX) _ _ _ _)) (fun hHeld => ?_)
                        clear hK K
                        try simp only [Act.put, List.setIfInBounds_toArray, List.set_cons_zero, List.set_cons_succ]
                        refine wpAnyH_done (by kernel_rfl) ?_ _
                        show R21 _ _
                        rw [HR21.out]
                        have eL : x.f3.length + (1) = (x.f3 ++ [x]).length := by simp; try omega
                        have eF : cs.flatten ++ [Value.int .u8 x.f0, .int .i64 x.f1, .string x.f2, .slice (some ad) x.f3.length c] = (cs ++ [[Value.int .u8 x.f0, .int .i64 x.f1, .string x.f2, .slice (some ad) x.f3.length c]]).flatten := by simp
                        have hB4 : Below V5.heap.size V5 (put4 w21_5 (V5.heap.size) (.int .u8 47) (.int .i64 0) (.string ⟨#[]⟩) (.slice A21_4 (x.f3.length + (1)) c21_4)) := B5.trans (set4_below (V5.heap.size) (by first | exact Nat.le_refl _ | exact BX) _ _ _ _)
                        have hG4 : (put4 w21_5 (V5.heap.size) (.int .u8 47) (.int .i64 0) (.string ⟨#[]⟩) (.slice A21_4 (x.f3.length + (1)) c21_4)).ownsRow V5.heap.size 24 4 (.slice A21_4 (x.f3.length + (1)) c21_4) (x.f3.length + (1)) (cs.flatten ++ [Value.int .u8 x.f0, .int .i64 x.f1, .string x.f2, .slice (some ad) x.f3.length c]) := own_keep G5 (fun g e => put4_far _ _ _ (fun h => NX5 (by rw [e, h])) _ _ _ _)
                        rw [eF] at hG4
                        have hAt : At (put4 w21_5 (V5.heap.size) (.int .u8 47) (.int .i64 0) (.string ⟨#[]⟩) (.slice A21_4 (x.f3.length + (1)) c21_4)) ⟨47, 0, ⟨#[]⟩, x.f3 ++ [x]⟩ _ _ := row_tree hG4 ((fun h => (HRW.out.below ((HBV5.out.trans (h.mono HBV5.out.size)))).append (RowOf.single (HA.out.below ((HBV5.out.trans (h.mono HBV5.out.size)))))) hB4) eL (by omega) 47 0 ⟨#[]⟩
                        have hcl : ∀ j, (put4 w21_5 (V5.heap.size) (.int .u8 47) (.int .i64 0) (.string ⟨#[]⟩) (.slice A21_4 (x.f3.length + (1)) c21_4)).cell? ⟨V5.heap.size, j, none⟩ = #[Value.int .u8 47, .int .i64 0, .string ⟨#[]⟩, .slice A21_4 (x.f3 ++ [x]).length c21_4][j]? := fun j => by rw [← eL]; exact set4 _ _ hz _ _ _ _ j
                        unfold put4 at hcl hAt
                        exact ⟨V5.heap.size, _, _, _, _, _, _, _, rfl, hHeld, (by first | exact Nat.le_refl _ | exact BX), hcl, hAt⟩
                      exact AllReadyH.nil
                    exact AllReadyH.nil
                  exact AllReadyH.nil
                refine held_cons rfl (by rfl) (fun K hK => ?_) ?_
                · unfold Oper.wp
                  go_simp
                  refine hK.out _ _ (hHeld.alloc hHeld.size _) (fun hHeld => ?_)
                  clear hK K
                  try simp only [Act.put, List.setIfInBounds_toArray, List.set_cons_zero, List.set_cons_succ]
                  refine held_world (fun W' => Below V5.heap.size V5 W' ∧ W'.heap[V5.heap.size]? = some (.cells #[.int .u8 0, .int .i64 0, .string ⟨#[]⟩, .slice none 0 0] 24) ∧ W'.heap[w21_2.heap.size]? = some (.cells #[.int .u8 x.f0, .int .i64 x.f1, .string x.f2, .slice (some ad) x.f3.length c] 24) ∧ W'.ownsRow V5.heap.size 24 4 (.slice (some ⟨w21_1.heap.size, 0, none⟩) 0 0) (0) ([]) ∧ (.slice (some ⟨w21_1.heap.size, 0, none⟩) 0 0 : Value).ownBlock ≠ some (V5.heap.size) ∧ (.slice (some ⟨w21_1.heap.size, 0, none⟩) 0 0 : Value).ownBlock ≠ some (w21_2.heap.size)) ⟨hHeld, heap_alloc X2, World.alloc_heap_new _ _, World.ownsRow.alloc G2 _, NX2, own_ne G2⟩ (fun w21_3 hf => ?_)
                  obtain ⟨B3, X3, O3, G3, NX3, N13⟩ := hf
                  clear hHeld
                  have hHeld := B3
                  refine wpAnyH_ready (rs := [3]) (by kernel_rfl) (by simp) ?_
                  refine held_cons rfl (by rfl) (fun K hK => ?_) ?_
                  · refine wp_append_at (.tmp 81) (.tmp 83) 22 rfl V5.heap.size 24 (.agg #[.int .u8 0, .int .i64 0, .string ⟨#[]⟩, .slice none 0 0]) 4 56 Tryd.underlying22 info24 rfl (by decide) _ _ _ ([]) rfl G3 _ (x.f3.length) _ (cs.flatten) rfl (NL3.out) ((NW3.out _ ((HBV5.out.trans (B3.mono HBV5.out.size))))) (NO3.out) (x.f3.length) (by first | rfl | exact Nat.zero_add _) (cs.flatten) (by first | rfl | exact List.nil_append _) (by omega) (by decide) B3.size ?_
                    intro A21_3 c21_3 w21_4 G4 hg hat
                    have B4 : Below V5.heap.size V5 w21_4 := B3.grown hg B3.size (fun q e => (World.ownsRow.lt G3 q e).1)
                    have X4 := heap_keep hg X3 NX3
                    have NX4 := at_ne hat NX3 (heap_lt X3)
                    have O4 := heap_keep hg O3 N13
                    have N14 := at_ne hat N13 (heap_lt O3)
                    clear hg hat
                    refine hK.out _ _ B4 (fun hHeld => ?_)
                    clear hK K
                    try simp only [Act.put, List.setIfInBounds_toArray, List.set_cons_zero, List.set_cons_succ]
                    refine wpAnyH_ready (rs := [6]) (by kernel_rfl) (by simp) ?_
                    refine held_cons rfl (by rfl) (fun K hK => ?_) ?_
                    · refine wp_append_at (.tmp 84) (.tmp 86) 22 rfl V5.heap.size 24 (.agg #[.int .u8 0, .int .i64 0, .string ⟨#[]⟩, .slice none 0 0]) 4 56 Tryd.underlying22 info24 rfl (by decide) _ _ _ (cs.flatten) rfl G4 _ (1) _ ([Value.int .u8 x.f0, .int .i64 x.f1, .string x.f2, .slice (some ad) x.f3.length c]) rfl (rfl) ((World.news_of_block O4)) ((by intro u' hu'; simp at hu'; rcases hu' with rfl | rfl | rfl | rfl <;> rfl)) (x.f3.length + (1)) (by first | rfl | exact Nat.zero_add _) (cs.flatten ++ [Value.int .u8 x.f0, .int .i64 x.f1, .string x.f2, .slice (some ad) x.f3.length c]) (by first | rfl | exact List.nil_append _) (by omega) (by decide) B4.size ?_
                      intro A21_4 c21_4 w21_5 G5 hg hat
                      have B5 : Below V5.heap.size V5 w21_5 := B4.grown hg B4.size (fun q e => (World.ownsRow.lt G4 q e).1)
                      have X5 := heap_keep hg X4 NX4
                      have NX5 := at_ne hat NX4 (heap_lt X4)
                      have O5 := heap_keep hg O4 N14
                      have N15 := at_ne hat N14 (heap_lt O4)
                      clear hg hat
                      refine hK.out _ _ B5 (fun hHeld => ?_)
                      clear hK K
                      try simp only [Act.put, List.setIfInBounds_toArray, List.set_cons_zero, List.set_cons_succ]
                      refine held_take 7 (v := _) rfl (by kernel_rfl) (by kernel_rfl) (by kernel_rfl) (by rfl) (by assumption) (fun w' hSw => by
                        skip
                        go_simp
                        try with_reducible rfl) ?_
                      try simp only [Act.put, List.setIfInBounds_toArray, List.set_cons_zero, List.set_cons_succ]
                      refine wpAnyH_ready (rs := [9]) (by kernel_rfl) (by simp) ?_
                      refine held_cons rfl (by rfl) (fun K hK => ?_) ?_
                      · unfold Oper.wp
                        have hz := heap_cells X5
                        have hzf := heap_frozen X5
                        go_simp
                        refine hK.out _ _ (B5.trans (set4_below (V5.heap.size) (by first | exact Nat.le_refl _ | exact BX) _ _ _ _)) (fun hHeld => ?_)
                        clear hK K
                        try simp only [Act.put, List.setIfInBounds_toArray, List.set_cons_zero, List.set_cons_succ]
                        refine wpAnyH_done (by kernel_rfl) ?_ _
                        show R21 _ _
                        rw [HR21.out]
                        have eL : x.f3.length + (1) = (x.f3 ++ [x]).length := by simp; try omega
                        have eF : cs.flatten ++ [Value.int .u8 x.f0, .int .i64 x.f1, .string x.f2, .slice (some ad) x.f3.length c] = (cs ++ [[Value.int .u8 x.f0, .int .i64 x.f1, .string x.f2, .slice (some ad) x.f3.length c]]).flatten := by simp
                        have hB4 : Below V5.heap.size V5 (put4 w21_5 (V5.heap.size) (.int .u8 47) (.int .i64 0) (.string ⟨#[]⟩) (.slice A21_4 (x.f3.length + (1)) c21_4)) := B5.trans (set4_below (V5.heap.size) (by first | exact Nat.le_refl _ | exact BX) _ _ _ _)
                        have hG4 : (put4 w21_5 (V5.heap.size) (.int .u8 47) (.int .i64 0) (.string ⟨#[]⟩) (.slice A21_4 (x.f3.length + (1)) c21_4)).ownsRow V5.heap.size 24 4 (.slice A21_4 (x.f3.length + (1)) c21_4) (x.f3.length + (1)) (cs.flatten ++ [Value.int .u8 x.f0, .int .i64 x.f1, .string x.f2, .slice (some ad) x.f3.length c]) := own_keep G5 (fun g e => put4_far _ _ _ (fun h => NX5 (by rw [e, h])) _ _ _ _)
                        rw [eF] at hG4
                        have hAt : At (put4 w21_5 (V5.heap.size) (.int .u8 47) (.int .i64 0) (.string ⟨#[]⟩) (.slice A21_4 (x.f3.length + (1)) c21_4)) ⟨47, 0, ⟨#[]⟩, x.f3 ++ [x]⟩ _ _ := row_tree hG4 ((fun h => (HRW.out.below ((HBV5.out.trans (h.mono HBV5.out.size)))).append (RowOf.single (HA.out.below ((HBV5.out.trans (h.mono HBV5.out.size)))))) hB4) eL (by omega) 47 0 ⟨#[]⟩
                        have hcl : ∀ j, (put4 w21_5 (V5.heap.size) (.int .u8 47) (.int .i64 0) (.string ⟨#[]⟩) (.slice A21_4 (x.f3.length + (1)) c21_4)).cell? ⟨V5.heap.size, j, none⟩ = #[Value.int .u8 47, .int .i64 0, .string ⟨#[]⟩, .slice A21_4 (x.f3 ++ [x]).length c21_4][j]? := fun j => by rw [← eL]; exact set4 _ _ hz _ _ _ _ j
                        unfold put4 at hcl hAt
                        exact ⟨V5.heap.size, _, _, _, _, _, _, _, rfl, hHeld, (by first | exact Nat.le_refl _ | exact BX), hcl, hAt⟩
                      exact AllReadyH.nil
                    exact AllReadyH.nil
                  exact AllReadyH.nil
                exact AllReadyH.nil
              refine held_cons rfl (by rfl) (fun K hK => ?_) ?_
              · unfold Oper.wp
                go_simp
                refine hK.out _ _ (hHeld.alloc hHeld.size _) (fun hHeld => ?_)
                clear hK K
                try simp only [Act.put, List.setIfInBounds_toArray, List.set_cons_zero, List.set_cons_succ]
                refine held_world (fun W' => Below V5.heap.size V5 W' ∧ W'.heap[V5.heap.size]? = some (.cells #[.int .u8 0, .int .i64 0, .string ⟨#[]⟩, .slice none 0 0] 24) ∧ W'.heap[w21_1.heap.size]? = some (.cells #[.int .u8 x.f0, .int .i64 x.f1, .string x.f2, .slice (some ad) x.f3.length c] 24)) ⟨hHeld, heap_alloc X1, World.alloc_heap_new _ _⟩ (fun w21_2 hf => ?_)
                obtain ⟨B2, X2, O2⟩ := hf
                clear hHeld
                have hHeld := B2
                refine wpAnyH_ready (rs := [0]) (by kernel_rfl) (by simp) ?_
                refine held_cons rfl (by rfl) (fun K hK => ?_) ?_
                · unfold Oper.wp
                  go_simp
                  refine hK.out _ _ (hHeld.alloc hHeld.size _) (fun hHeld => ?_)
                  clear hK K
                  try simp only [Act.put, List.setIfInBounds_toArray, List.set_cons_zero, List.set_cons_succ]
                  refine held_world (fun W' => Below V5.heap.size V5 W' ∧ W'.heap[V5.heap.size]? = some (.cells #[.int .u8 0, .int .i64 0, .string ⟨#[]⟩, .slice none 0 0] 24) ∧ W'.heap[w21_1.heap.size]? = some (.cells #[.int .u8 x.f0, .int .i64 x.f1, .string x.f2, .slice (some ad) x.f3.length c] 24) ∧ W'.ownsRow V5.heap.size 24 4 (.slice (some ⟨w21_2.heap.size, 0, none⟩) 0 0) (0) ([]) ∧ (.slice (some ⟨w21_2.heap.size, 0, none⟩) 0 0 : Value).ownBlock ≠ some (V5.heap.size) ∧ (.slice (some ⟨w21_2.heap.size, 0, none⟩) 0 0 : Value).ownBlock ≠ some (w21_1.heap.size)) ⟨hHeld, heap_alloc X2, heap_alloc O2, World.ownsRow_made _ #[] 0 B2.size (Nat.zero_le _) rfl, (fun e => by have := heap_lt X2; simp [Value.ownBlock] at e; (try simp at this); omega), (fun e => by have := heap_lt O2; simp [Value.ownBlock] at e; (try simp at this); omega)⟩ (fun w21_3 hf => ?_)
                  obtain ⟨B3, X3, O3, G3, NX3, N13⟩ := hf
                  clear hHeld
                  have hHeld := B3
                  refine wpAnyH_ready (rs := [3]) (by kernel_rfl) (by simp) ?_
                  refine held_cons rfl (by rfl) (fun K hK => ?_) ?_
                  · refine wp_append_at (.tmp 81) (.tmp 83) 22 rfl V5.heap.size 24 (.agg #[.int .u8 0, .int .i64 0, .string ⟨#[]⟩, .slice none 0 0]) 4 56 Tryd.underlying22 info24 rfl (by decide) _ _ _ ([]) rfl G3 _ (x.f3.length) _ (cs.flatten) rfl (NL3.out) ((NW3.out _ ((HBV5.out.trans (B3.mono HBV5.out.size))))) (NO3.out) (x.f3.length) (by first | rfl | exact Nat.zero_add _) (cs.flatten) (by first | rfl | exact List.nil_append _) (by omega) (by decide) B3.size ?_
                    intro A21_3 c21_3 w21_4 G4 hg hat
                    have B4 : Below V5.heap.size V5 w21_4 := B3.grown hg B3.size (fun q e => (World.ownsRow.lt G3 q e).1)
                    have X4 := heap_keep hg X3 NX3
                    have NX4 := at_ne hat NX3 (heap_lt X3)
                    have O4 := heap_keep hg O3 N13
                    have N14 := at_ne hat N13 (heap_lt O3)
                    clear hg hat
                    refine hK.out _ _ B4 (fun hHeld => ?_)
                    clear hK K
                    try simp only [Act.put, List.setIfInBounds_toArray, List.set_cons_zero, List.set_cons_succ]
                    refine wpAnyH_ready (rs := [6]) (by kernel_rfl) (by simp) ?_
                    refine held_cons rfl (by rfl) (fun K hK => ?_) ?_
                    · refine wp_append_at (.tmp 84) (.tmp 86) 22 rfl V5.heap.size 24 (.agg #[.int .u8 0, .int .i64 0, .string ⟨#[]⟩, .slice none 0 0]) 4 56 Tryd.underlying22 info24 rfl (by decide) _ _ _ (cs.flatten) rfl G4 _ (1) _ ([Value.int .u8 x.f0, .int .i64 x.f1, .string x.f2, .slice (some ad) x.f3.length c]) rfl (rfl) ((World.news_of_block O4)) ((by intro u' hu'; simp at hu'; rcases hu' with rfl | rfl | rfl | rfl <;> rfl)) (x.f3.length + (1)) (by first | rfl | exact Nat.zero_add _) (cs.flatten ++ [Value.int .u8 x.f0, .int .i64 x.f1, .string x.f2, .slice (some ad) x.f3.length c]) (by first | rfl | exact List.nil_append _) (by omega) (by decide) B4.size ?_
                      intro A21_4 c21_4 w21_5 G5 hg hat
                      have B5 : Below V5.heap.size V5 w21_5 := B4.grown hg B4.size (fun q e => (World.ownsRow.lt G4 q e).1)
                      have X5 := heap_keep hg X4 NX4
                      have NX5 := at_ne hat NX4 (heap_lt X4)
                      have O5 := heap_keep hg O4 N14
                      have N15 := at_ne hat N14 (heap_lt O4)
                      clear hg hat
                      refine hK.out _ _ B5 (fun hHeld => ?_)
                      clear hK K
                      try simp only [Act.put, List.setIfInBounds_toArray, List.set_cons_zero, List.set_cons_succ]
                      refine held_take 7 (v := _) rfl (by kernel_rfl) (by kernel_rfl) (by kernel_rfl) (by rfl) (by assumption) (fun w' hSw => by
                        skip
                        go_simp
                        try with_reducible rfl) ?_
                      try simp only [Act.put, List.setIfInBounds_toArray, List.set_cons_zero, List.set_cons_succ]
                      refine wpAnyH_ready (rs := [9]) (by kernel_rfl) (by simp) ?_
                      refine held_cons rfl (by rfl) (fun K hK => ?_) ?_
                      · unfold Oper.wp
                        have hz := heap_cells X5
                        have hzf := heap_frozen X5
                        go_simp
                        refine hK.out _ _ (B5.trans (set4_below (V5.heap.size) (by first | exact Nat.le_refl _ | exact BX) _ _ _ _)) (fun hHeld => ?_)
                        clear hK K
                        try simp only [Act.put, List.setIfInBounds_toArray, List.set_cons_zero, List.set_cons_succ]
                        refine wpAnyH_done (by kernel_rfl) ?_ _
                        show R21 _ _
                        rw [HR21.out]
                        have eL : x.f3.length + (1) = (x.f3 ++ [x]).length := by simp; try omega
                        have eF : cs.flatten ++ [Value.int .u8 x.f0, .int .i64 x.f1, .string x.f2, .slice (some ad) x.f3.length c] = (cs ++ [[Value.int .u8 x.f0, .int .i64 x.f1, .string x.f2, .slice (some ad) x.f3.length c]]).flatten := by simp
                        have hB4 : Below V5.heap.size V5 (put4 w21_5 (V5.heap.size) (.int .u8 47) (.int .i64 0) (.string ⟨#[]⟩) (.slice A21_4 (x.f3.length + (1)) c21_4)) := B5.trans (set4_below (V5.heap.size) (by first | exact Nat.le_refl _ | exact BX) _ _ _ _)
                        have hG4 : (put4 w21_5 (V5.heap.size) (.int .u8 47) (.int .i64 0) (.string ⟨#[]⟩) (.slice A21_4 (x.f3.length + (1)) c21_4)).ownsRow V5.heap.size 24 4 (.slice A21_4 (x.f3.length + (1)) c21_4) (x.f3.length + (1)) (cs.flatten ++ [Value.int .u8 x.f0, .int .i64 x.f1, .string x.f2, .slice (some ad) x.f3.length c]) := own_keep G5 (fun g e => put4_far _ _ _ (fun h => NX5 (by rw [e, h])) _ _ _ _)
                        rw [eF] at hG4
                        have hAt : At (put4 w21_5 (V5.heap.size) (.int .u8 47) (.int .i64 0) (.string ⟨#[]⟩) (.slice A21_4 (x.f3.length + (1)) c21_4)) ⟨47, 0, ⟨#[]⟩, x.f3 ++ [x]⟩ _ _ := row_tree hG4 ((fun h => (HRW.out.below ((HBV5.out.trans (h.mono HBV5.out.size)))).append (RowOf.single (HA.out.below ((HBV5.out.trans (h.mono HBV5.out.size)))))) hB4) eL (by omega) 47 0 ⟨#[]⟩
                        have hcl : ∀ j, (put4 w21_5 (V5.heap.size) (.int .u8 47) (.int .i64 0) (.string ⟨#[]⟩) (.slice A21_4 (x.f3.length + (1)) c21_4)).cell? ⟨V5.heap.size, j, none⟩ = #[Value.int .u8 47, .int .i64 0, .string ⟨#[]⟩, .slice A21_4 (x.f3 ++ [x]).length c21_4][j]? := fun j => by rw [← eL]; exact set4 _ _ hz _ _ _ _ j
                        unfold put4 at hcl hAt
                        exact ⟨V5.heap.size, _, _, _, _, _, _, _, rfl, hHeld, (by first | exact Nat.le_refl _ | exact BX), hcl, hAt⟩
                      exact AllReadyH.nil
                    exact AllReadyH.nil
                  exact AllReadyH.nil
                exact AllReadyH.nil
              exact AllReadyH.nil
            exact AllReadyH.nil
          case next =>
            intro a V6 h
            rw [HR21.out] at h
            obtain ⟨bb3, A3_, c3_, t81, t84, t86, t87, t88, rfl, hBV6, hbb3, hcl3, hAt3⟩ := h
            clear HR21
            have HBBV6 := Aside0.mk hBV6
            have HBV6 : Aside0 (Below w.heap.size w V6) := ⟨HBV5.out.trans (hBV6.mono HBV5.out.size)⟩
            have HCL3 := Aside0.mk hcl3
            have HAT3 := Aside0.mk hAt3
            have hlt3 : bb3 < V6.heap.size := World.block_lt_of_cell? _ ⟨bb3, 0, none⟩ (hcl3 0)
            clear hBV6 hcl3 hAt3
            have hB6 : Below W.heap.size W V6 := HBBV4.out.trans ((HBBV5.out.trans (HBBV6.out.mono HBBV5.out.size)).mono HBBV4.out.size)
            have H6 : Aside0 (Law3 w W V6 D) := ⟨⟨HBV6.out, hB6, ⟨(hB6.cell (p := ⟨w.heap.size + 1, 0, none⟩) (by show w.heap.size + 1 < _; omega)).trans hr1, (hB6.frozen (p := ⟨w.heap.size + 1, 0, none⟩) (by show w.heap.size + 1 < _; omega)).trans hr2⟩, (hB6.block D (Array.getElem?_eq_some_iff.1 HK.out).1).trans HK.out⟩⟩
            have hbf := block_form x hi
            have hokk : ∀ y ∈ x.f3, okN y := by obtain ⟨a0, a1, a2, ks⟩ := x; intro y hy; have := HOK.out; rw [okN] at this; exact okL_mem this.2.2 hy
            have hzm : z ∈ x.f3 := HZM.out
            have hless : isN ⟨47, 0, ⟨#[]⟩, x.f3.take k ++ x.f3.drop (k + 1)⟩ 8 = true := by
              rw [block_isN, List.all_eq_true]
              intro y hy
              rcases List.mem_append.1 hy with h | h
              · exact hbf.2 y (List.mem_of_mem_take h)
              · exact hbf.2 y (List.mem_of_mem_drop h)
            have hmore : isN ⟨47, 0, ⟨#[]⟩, x.f3 ++ [z]⟩ 8 = true := by
              rw [block_isN, List.all_eq_true]
              intro y hy
              rcases List.mem_append.1 hy with h | h
              · exact hbf.2 y h
              · rw [List.mem_singleton.1 h]; exact hbf.2 z hzm
            have hnest : isN ⟨47, 0, ⟨#[]⟩, x.f3 ++ [x]⟩ 8 = false := by
              have h4 : isN x 4 = false := by
                rcases isN_one x 8 (Or.inr (Or.inr (Or.inr rfl))) hi with ⟨_, _, h⟩ | ⟨_, _, h⟩ | ⟨_, h, _⟩
                · rw [h] at hi; cases hi
                · rw [h] at hi; cases hi
                · exact h
              rw [block_isN, List.all_append]
              simp [h4]
            have ok1 : okN ⟨47, 0, ⟨#[]⟩, x.f3.take k ++ x.f3.drop (k + 1)⟩ := block_ok fun y hy => by
              rcases List.mem_append.1 hy with h | h
              · exact hokk y (List.mem_of_mem_take h)
              · exact hokk y (List.mem_of_mem_drop h)
            have ok2 : okN ⟨47, 0, ⟨#[]⟩, x.f3 ++ [z]⟩ := block_ok fun y hy => by
              rcases List.mem_append.1 hy with h | h
              · exact hokk y h
              · rw [List.mem_singleton.1 h]; exact hokk z hzm
            have ok3 : okN ⟨47, 0, ⟨#[]⟩, x.f3 ++ [x]⟩ := block_ok fun y hy => by
              rcases List.mem_append.1 hy with h | h
              · exact hokk y h
              · rw [List.mem_singleton.1 h]; exact HOK.out
            have HF1 : Aside0 (∀ w', Below V6.heap.size V6 w' → Calls Tryd.prog 27 #[.agg #[.int .u8 47, .int .i64 0, .string ⟨#[]⟩, .slice A1 (x.f3.take k ++ x.f3.drop (k + 1)).length c1]] w' fun e w'' => e = .returned (.bool true) ∧ Below w'.heap.size w' w'') := ⟨fun w' h => by
              have := isBlock _ A1 c1 w' ok1 (HT.out.below (HBV6.out.trans (h.mono HBV6.out.size))) (HAT1.out.below ((HBBV5.out.trans (HBBV6.out.mono HBBV5.out.size)).trans (h.mono (Nat.le_trans HBBV5.out.size HBBV6.out.size))))
              rw [hless] at this
              exact this⟩
            have HF2 : Aside0 (∀ w', Below V6.heap.size V6 w' → Calls Tryd.prog 27 #[.agg #[.int .u8 47, .int .i64 0, .string ⟨#[]⟩, .slice A2 (x.f3 ++ [z]).length c2]] w' fun e w'' => e = .returned (.bool true) ∧ Below w'.heap.size w' w'') := ⟨fun w' h => by
              have := isBlock _ A2 c2 w' ok2 (HT.out.below (HBV6.out.trans (h.mono HBV6.out.size))) (HAT2.out.below (HBBV6.out.trans (h.mono HBBV6.out.size)))
              rw [hmore] at this
              exact this⟩
            have HF3 : Aside0 (∀ w', Below V6.heap.size V6 w' → Calls Tryd.prog 27 #[.agg #[.int .u8 47, .int .i64 0, .string ⟨#[]⟩, .slice A3_ (x.f3 ++ [x]).length c3_]] w' fun e w'' => e = .returned (.bool false) ∧ Below w'.heap.size w' w'') := ⟨fun w' h => by
              have := isBlock _ A3_ c3_ w' ok3 (HT.out.below (HBV6.out.trans (h.mono HBV6.out.size))) (HAT3.out.below h)
              rw [hnest] at this
              exact this⟩
            have HC1 : Aside0 (∀ w', Below V6.heap.size V6 w' → ∀ j, w'.cell? ⟨bb1, j, none⟩ = #[Value.int .u8 47, .int .i64 0, .string ⟨#[]⟩, .slice A1 (x.f3.take k ++ x.f3.drop (k + 1)).length c1][j]?) := ⟨fun w' h => box_keep ((HBBV5.out.trans (HBBV6.out.mono HBBV5.out.size)).trans (h.mono (Nat.le_trans HBBV5.out.size HBBV6.out.size))) hlt1 HCL1.out⟩
            have HC2 : Aside0 (∀ w', Below V6.heap.size V6 w' → ∀ j, w'.cell? ⟨bb2, j, none⟩ = #[Value.int .u8 47, .int .i64 0, .string ⟨#[]⟩, .slice A2 (x.f3 ++ [z]).length c2][j]?) := ⟨fun w' h => box_keep (HBBV6.out.trans (h.mono HBBV6.out.size)) hlt2 HCL2.out⟩
            have HC3 : Aside0 (∀ w', Below V6.heap.size V6 w' → ∀ j, w'.cell? ⟨bb3, j, none⟩ = #[Value.int .u8 47, .int .i64 0, .string ⟨#[]⟩, .slice A3_ (x.f3 ++ [x]).length c3_][j]?) := ⟨fun w' h => box_keep h hlt3 HCL3.out⟩
            clear hless hmore hnest ok1 ok2 ok3 hokk hbf hzm hr1 hr2 hB6 hn
            generalize (x.f3.take k ++ x.f3.drop (k + 1)).length = l1 at *
            generalize (x.f3 ++ [z]).length = l2 at *
            generalize (x.f3 ++ [x]).length = l3 at *
            have hq1 := HC1.out V6 (Below.refl _ _)
            gi_wp2_with fail
            refine ⟨trivial, ?_⟩
            refine (callsIn_wide.2 (HF1.out V6 (Below.refl _ _))).mono ?_
            rintro e U1 ⟨rfl, hU1⟩
            have HU1 := Aside0.mk hU1
            have H7 := Aside0.mk (H6.out.step hU1)
            clear hU1 hq1
            have hq2 := HC2.out U1 HU1.out
            gi_wp2_with fail
            refine ⟨trivial, ?_⟩
            refine (callsIn_wide.2 (HF2.out U1 HU1.out)).mono ?_
            rintro e U2 ⟨rfl, hU2⟩
            have HU2 := Aside0.mk (HU1.out.trans (hU2.mono HU1.out.size))
            have H8 := Aside0.mk (H7.out.step hU2)
            clear hU2 hq2
            have hq3 := HC3.out U2 HU2.out
            gi_wp2_with fail
            refine ⟨trivial, ?_⟩
            refine (callsIn_wide.2 (HF3.out U2 HU2.out)).mono ?_
            rintro e U3 ⟨rfl, hU3⟩
            have H9 := Aside0.mk (H8.out.step hU3)
            clear hU3 hq3
            obtain ⟨hr1, hr2⟩ := H9.out.res
            gi_wp2
            exact leave1 rfl rfl (World.cell?_setCell_same' _ _ _ (by rw [hr1]; rfl)) (H9.out.bw.setCell (p := ⟨w.heap.size + 1, 0, none⟩) (by show w.heap.size ≤ w.heap.size + 1; omega) _) HD.out ((KeepsOthers.setCell _ _ _).same D _ H9.out.kd rfl)
  case stop =>
    rintro D c pre W _ _ h _
    exact h.elim
theorem lawParts (x : Nd) (A : Option Addr) (c : Nat) (u : Int) (w : World) (hT : TabOk w) (hok : okN x) (hA : At w x A c) (hv : (Lit.int .u8 u).wf = true) :
    Calls Tryd.prog 6 #[nodeV x A c, .int .u8 u] w fun e w' => e = .returned (.bool true) ∧ Below w.heap.size w w' := by
  rcases big_ok x with hb | ⟨hb, hs, hd⟩
  · exact lawParts_big x A c u w hT hok hA hb
  · cases hi : isN x 8 with
    | false => exact lawParts_no x A c u w hT hok hA hb hi
    | true => exact lawParts_main x A c u w hT hok hA hb hs hd hv hi
end Go.Proofs.YtmdbbfoejmakdaaDoor.Ha

/-
  The law AstWalk, walked: it returns true. By this session, out of its own program (wip/gen).
-/
import Derived.Test.YtmdbbfoejmakdaaDoorHkept
namespace Go.Proofs.YtmdbbfoejmakdaaDoor.Ha
open Go.RowKit Go.Shelf Go.Proofs.YtmdbbfoejmakdaaDoorW.PrintWords Go.Proofs.YtmdbbfoejmakdaaDoorW.PrintLast Go.Proofs.YtmdbbfoejmakdaaDoorW.PrintMore Go.Proofs.YtmdbbfoejmakdaaDoor.P
set_option linter.unusedVariables false
set_option linter.unusedSimpArgs false
open Hl
attribute [local go_sem] Oper.semAt_some
/-- The world in which the first range begins. -/
structure WlkAt (w : World) (row : Array Value) (S : Nat) (wv : Value) (ps : List (List Int)) (W : World) : Prop where
  law : Law2 w row W
  le : w.heap.size + 2 ≤ S
  size : W.heap.size = S + 1 + 1 + 1
  want : Box1 W S wv
  C : ∃ A c, wv = .slice A ps.length c ∧ ps.length ≤ c ∧ ∃ w3, w3.heap.size = S ∧ Below S w3 W ∧ Kd.C (Kd.slice 3 (Kd.int .i64)) w3 A ps.length ps
  kept : Box1 W (S + 1) (.slice none 0 0)
  wlk : ∀ j, W.cell? ⟨S + 1 + 1, j, none⟩ = row[j]?
theorem Below.setNew {n : Nat} {w W : World} (h : Below n w W) (b j : Nat) (v : Value) (hb : n ≤ b) : Below n w (W.setCell ⟨b, j, none⟩ v) := h.setCell (p := ⟨b, j, none⟩) hb v
theorem WlkAt.of {w : World} {row : Array Value} {w2 w3 : World} {wv : Value} {ps : List (List Int)} (h : Law2 w row w2) (hB : Below w2.heap.size w2 w3) (hN : Kd.N (Kd.slice 3 (Kd.int .i64)) 34 w3 w2.heap.size (fun k_ => (w2.heap.size ≤ k_)) wv ps) :
    WlkAt w row w3.heap.size wv ps (((w3.alloc (.cells #[wv] 29)).alloc (.cells #[.slice none 0 0] 29)).alloc (.cells row 24)) := by
  have h3 := h.step hB
  have hb : Below w3.heap.size w3 (((w3.alloc (.cells #[wv] 29)).alloc (.cells #[.slice none 0 0] 29)).alloc (.cells row 24)) :=
    (((Below.refl _ w3).alloc (Nat.le_refl _) _).alloc (by simp) _).alloc (by simp; omega) _
  obtain ⟨A, c, e, hl, hC⟩ := Kd.N_reads hN
  refine ⟨h3.step hb, h3.res.lt, by simp, ((Box1.new w3 _ 29).alloc _).alloc _, ⟨A, c, e, hl, w3, rfl, hb, hC⟩, (Box1.newAt (w3.alloc (.cells #[wv] 29)) _ 29 _ (by simp)).alloc _, fun j => ?_⟩
  have := box_new ((w3.alloc (.cells #[wv] 29)).alloc (.cells #[.slice none 0 0] 29)) row 24 j
  have hs : ((w3.alloc (.cells #[wv] 29)).alloc (.cells #[.slice none 0 0] 29)).heap.size = w3.heap.size + 1 + 1 := by simp
  rw [hs] at this
  exact this
mutual
theorem wk_sz : ∀ (x : Nd) (p : List Int), ∀ q ∈ wkN p x, szN q.2 ≤ szN x
  | ⟨a, b, d, ks⟩, p, q, hq => by
    rw [wkN] at hq
    cases hq with
    | head => exact Nat.le_refl _
    | tail _ hq => rw [szN]; exact Nat.le_trans (wkL_sz ks p 0 q hq) (by omega)
theorem wkL_sz : ∀ (l : List Nd) (p : List Int) (i : Nat), ∀ q ∈ wkL p i l, szN q.2 ≤ szL l
  | [], p, i, q, hq => by rw [wkL] at hq; cases hq
  | x :: r, p, i, q, hq => by
    rw [wkL, List.mem_append] at hq
    rw [szL]
    rcases hq with hq | hq
    · exact Nat.le_trans (wk_sz x _ q hq) (by omega)
    · exact Nat.le_trans (wkL_sz r p (i + 1) q hq) (by omega)
end
/-- The world in which the second range begins. -/
structure Wlk2 (w : World) (row : Array Value) (S2 M D : Nat) (V : World) : Prop where
  below : Below w.heap.size w V
  le : w.heap.size + 2 ≤ S2
  size : V.heap.size = S2 + 1 + 1 + 1
  most : Box1 V S2 (.int .i64 M)
  cnt : Box1 V (S2 + 1) (.int .i64 0)
  wlk : ∀ j, V.cell? ⟨S2 + 1 + 1, j, none⟩ = row[j]?
  res : Box1 V (w.heap.size + 1) (.bool false)
  kd : V.heap[D]? = some (.deferred (some []))
theorem Wlk2.of {w : World} {row : Array Value} {M D : Nat} {W wr : World} (hbw : Below w.heap.size w W) (hle : w.heap.size + 2 ≤ W.heap.size) (hB : Below W.heap.size W wr) (hr : Box1 W (w.heap.size + 1) (.bool false)) (hk : W.heap[D]? = some (.deferred (some []))) :
    Wlk2 w row wr.heap.size M D (((wr.alloc (.cells #[.int .i64 M] 3)).alloc (.cells #[.int .i64 0] 3)).alloc (.cells row 24)) := by
  have hb : Below wr.heap.size wr (((wr.alloc (.cells #[.int .i64 M] 3)).alloc (.cells #[.int .i64 0] 3)).alloc (.cells row 24)) := (((Below.refl _ wr).alloc (Nat.le_refl _) _).alloc (by simp) _).alloc (by simp; omega) _
  have hbb := hB.trans (hb.mono hB.size)
  refine ⟨hbw.trans (hbb.mono hbw.size), by have := hB.size; omega, by simp, ((Box1.new wr _ 3).alloc _).alloc _, (Box1.newAt (wr.alloc (.cells #[.int .i64 M] 3)) _ 3 _ (by simp)).alloc _, fun j => ?_, hr.below hbb, (hbb.block D (Array.getElem?_eq_some_iff.1 hk).1).trans hk⟩
  have := box_new ((wr.alloc (.cells #[.int .i64 M] 3)).alloc (.cells #[.int .i64 0] 3)) row 24 j
  have hs : ((wr.alloc (.cells #[.int .i64 M] 3)).alloc (.cells #[.int .i64 0] 3)).heap.size = wr.heap.size + 1 + 1 := by simp
  rw [hs] at this
  exact this
theorem KpI.start {w : World} {row : Array Value} {S : Nat} {wv : Value} {ps : List (List Int)} {Wl : World} (h : WlkAt w row S wv ps Wl) : KpI (S + 1) Wl [] Wl := ⟨But3.refl _ _, _, h.kept, World.ownsRow_nil _ _ _ _, fun v hv => by cases hv⟩
set_option maxHeartbeats 4000000 in
set_option maxRecDepth 100000 in
theorem lawWalk_big (x : Nd) (A : Option Addr) (c : Nat) (u : Int) (w : World) (hT : TabOk w) (hA : At w x A c) (hb : Ev fun k => ontimelaw12_Big.f k x.f0 x.f1 x.f2 x.f3 = some 1) :
    Calls Tryd.prog 5 #[nodeV x A c, .int .u16 u] w fun e w' => e = .returned (.bool true) ∧ Below w.heap.size w w' := by
  have h0 := Law2.start w #[.int .u8 x.f0, .int .i64 x.f1, .string x.f2, .slice A x.f3.length c]
  have HW := Aside0.mk (awake ((w.alloc (.cells #[.int .u8 x.f0, .int .i64 x.f1, .string x.f2, .slice A x.f3.length c] 24)).alloc (.cells #[.bool false] 4)) (hT.below h0.below))
  have HB := Aside0.mk (fun w' (h : Below w.heap.size w w') => big1 hb (hA.below h))
  have HA := Aside0.mk hA
  have H0 := Aside0.mk h0
  clear hb hA hT h0
  refine (callsIn_wide (n := 5)).1 ?_
  refine callsIn_of_wp_marks Tryd.func5 rfl trivial ?_ rfl
  simp only [Tryd.ntmps5, List.size_toArray, List.length_cons, List.length_nil, Nat.reduceAdd, Nat.reduceSub, Array.replicate_succ, Array.replicate_zero, List.push_toArray, List.append_toArray, List.nil_append, List.cons_append]
  gi_wp2_with fail
  refine ⟨trivial, ?_⟩
  refine (callsIn_wide.2 HW.out).mono ?_
  rintro e w1 ⟨rfl, hB1⟩
  have H1 := Aside0.mk (H0.out.step hB1)
  clear hB1
  have hc1 := H1.out.n
  gi_wp2_with fail
  refine ⟨trivial, ?_⟩
  refine (callsIn_wide.2 (HB.out _ H1.out.below)).mono ?_
  rintro e w2 ⟨rfl, hB2⟩
  have H2 := Aside0.mk (H1.out.step hB2)
  clear hB2 hc1
  have hc2 := H2.out.n
  obtain ⟨hr1, hr2⟩ := H2.out.res
  gi_wp2
  exact leave0 rfl rfl (World.cell?_setCell_same' _ _ _ (by rw [hr1]; rfl)) (H2.out.below.setCell (p := ⟨w.heap.size + 1, 0, none⟩) (by show w.heap.size ≤ w.heap.size + 1; omega) _)
set_option maxHeartbeats 4000000 in
set_option maxRecDepth 100000 in
theorem lawWalk_main (x : Nd) (A : Option Addr) (c : Nat) (u : Int) (w : World) (hT : TabOk w) (hA : At w x A c) (hb : Ev fun k => ontimelaw12_Big.f k x.f0 x.f1 x.f2 x.f3 = some 0) (hs : szN x ≤ 500) (hd : dpN x ≤ 40) (hv : (Lit.int .u16 u).wf = true) :
    Calls Tryd.prog 5 #[nodeV x A c, .int .u16 u] w fun e w' => e = .returned (.bool true) ∧ Below w.heap.size w w' := by
  have h0 := Law2.start w #[.int .u8 x.f0, .int .i64 x.f1, .string x.f2, .slice A x.f3.length c]
  have HW := Aside0.mk (awake ((w.alloc (.cells #[.int .u8 x.f0, .int .i64 x.f1, .string x.f2, .slice A x.f3.length c] 24)).alloc (.cells #[.bool false] 4)) (hT.below h0.below))
  have HB := Aside0.mk (fun w' (h : Below w.heap.size w w') => big0 hb (hA.below h))
  have HA := Aside0.mk hA
  have H0 := Aside0.mk h0
  clear hb hA hT h0
  refine (callsIn_wide (n := 5)).1 ?_
  refine callsIn_of_wp_marks Tryd.func5 rfl trivial ?_ rfl
  simp only [Tryd.ntmps5, List.size_toArray, List.length_cons, List.length_nil, Nat.reduceAdd, Nat.reduceSub, Array.replicate_succ, Array.replicate_zero, List.push_toArray, List.append_toArray, List.nil_append, List.cons_append]
  gi_wp2_with fail
  refine ⟨trivial, ?_⟩
  refine (callsIn_wide.2 HW.out).mono ?_
  rintro e w1 ⟨rfl, hB1⟩
  have H1 := Aside0.mk (H0.out.step hB1)
  clear hB1
  have hc1 := H1.out.n
  gi_wp2_with fail
  refine ⟨trivial, ?_⟩
  refine (callsIn_wide.2 (HB.out _ H1.out.below)).mono ?_
  rintro e w2 ⟨rfl, hB2⟩
  have H2 := Aside0.mk (H1.out.step hB2)
  clear hB2 hc1
  have hc2 := H2.out.n
  have HP : Aside0 (∀ w', Below w.heap.size w w' → Calls Tryd.prog 35 #[nodeV x A c] w' fun e w'' => ∃ v0_ : Value, e = .returned v0_ ∧ Kd.N (Kd.slice 3 (Kd.int .i64)) 34 w'' w'.heap.size (fun k_ => (w'.heap.size ≤ k_)) v0_ (pthN x) ∧ Below w'.heap.size w' w'') := ⟨fun w' h => by
    obtain ⟨k, hk⟩ := (refPaths _ x (Nat.le_refl _) (by omega)).ex
    exact ontimeref12_Paths.calls k x.f0 x.f1 x.f2 A c x.f3 _ w' (HA.out.below h).1 (HA.out.below h).2 hk⟩
  gi_wp2_with (first
    | ((try refine ⟨trivial, ?_⟩); (try refine ⟨fun _ => by omega, ?_⟩); gi_at_call 35; refine (callsIn_wide.2 (HP.out _ H2.out.below)).mono ?_; rintro e w3 ⟨wv, rfl, hN, hB3⟩; obtain ⟨Aw, cw, rfl⟩ := Kd.N_slice hN; have hc3 := ((H2.out.step hB3).step (((Below.refl _ w3).alloc (Nat.le_refl _) (.cells #[.slice Aw (pthN x).length cw] 29)).alloc (by simp) (.cells #[.slice none 0 0] 29))).n; have HN3 := Aside0.mk hN; have HB3 := Aside0.mk hB3; clear hN hB3 hc2)
    | ((try refine ⟨trivial, ?_⟩); (try refine ⟨fun _ => by omega, ?_⟩); gi_at_call 36; refine (callsIn_wide.2 (WalkF x A c _)).mono ?_; rintro e w4 ⟨rfl, rfl⟩)
    | fail)
  refine at_world (WlkAt w #[.int .u8 x.f0, .int .i64 x.f1, .string x.f2, .slice A x.f3.length c] w3.heap.size (.slice Aw (pthN x).length cw) (pthN x)) (WlkAt.of H2.out HB3.out HN3.out) (fun Wl hW => ?_)
  obtain ⟨Aw', cw', he, hcw, hCw⟩ := hW.C
  simp only [Value.slice.injEq, true_and] at he
  obtain ⟨rfl, rfl⟩ := he
  clear hc3 HW HB H0 H1 HN3
  have hS := hW.le
  clear HB3 H2
  generalize w3.heap.size = S at *
  have hsz := hW.size
  have hn3 := hsz
  have hAt : TreeAt (But3 (kpOwn (S + 1) Wl.heap.size) Wl) x A c := (treeAt_of w _ x A c (Nat.le_refl _) HA.out).mono (fun W hW' => hW.law.below.trans (hW'.under (n := w.heap.size) (fun k o hk => kpOwn_lt (by omega) (by omega) k o hk) (by omega)))
  have HTX := Aside0.mk hAt
  have HCW : Aside0 (∀ W, But3 (kpOwn (S + 1) Wl.heap.size) Wl W → Kd.C (Kd.slice 3 (Kd.int .i64)) W Aw (pthN x).length (pthN x)) := ⟨fun W h => by
    obtain ⟨w3', e3, hb3, hC⟩ := hCw
    subst e3
    exact Kd.C_below hC (hb3.trans (h.under (n := w3'.heap.size) (fun k o hk => kpOwn_lt (by omega) (by omega) k o hk) (by omega)))⟩
  clear hCw
  refine range_known3 (n := 5) (by omega) (gf := 89) (lb := #[.pointer (some ⟨S + 1 + 1, 0, none⟩)]) rfl enter_Walk1
    (Walk_known3 (But3 (kpOwn (S + 1) Wl.heap.size) Wl) (kpOwn (S + 1) Wl.heap.size) Wl (S + 1 + 1) x A c (But3.refl _ _) (fun _ _ h h' => h.below h') (fun _ _ h h' => h.owned h') (kpOwn_or (by omega)) hAt hW.wlk (by omega) (by omega)) (fun _ => rfl) (fun x => Kn_own _ _ _ x)
    (KpI (S + 1) Wl) (fun _ _ _ => False) (KpI.own _ _) (KpI.stays _ _) (fun _ _ _ _ _ hs _ _ => hs) (fun _ _ _ _ hs _ => hs) (KpI.start hW)
    (fun v a' W => ∃ b, Wl.heap.size ≤ b ∧ (∀ j, j < 4 → W.cell? ⟨b, j, none⟩ = #[Value.int .u8 v.node.f0, .int .i64 v.node.f1, .string v.node.f2, .slice v.nA v.node.f3.length v.nc][j]?) ∧ a' = { tmps := #[nodeV x A c, .int .u16 u, .pointer (some ⟨w.heap.size, 0, none⟩), undef, .pointer (some ⟨w.heap.size + 1, 0, none⟩), .pointer (some ⟨S, 0, none⟩), .pointer (some ⟨S + 1, 0, none⟩), v.pv, .pointer (some ⟨b, 0, none⟩), undef, undef, undef, undef, undef, .bool true, .bool false, .agg #[.int .u8 x.f0, .int .i64 x.f1, .string x.f2, .slice A x.f3.length c], .int .i64 0, .bool false, .agg #[.int .u8 x.f0, .int .i64 x.f1, .string x.f2, .slice A x.f3.length c], .slice Aw (pthN x).length cw, .agg #[.int .u8 x.f0, .int .i64 x.f1, .string x.f2, .slice A x.f3.length c], .func (.func 89) #[] #[.pointer (some ⟨S + 1 + 1, 0, none⟩)], v.pv, nodeV v.node v.nA v.nc, undef, undef, undef, undef, undef, undef, undef, undef, undef, undef, undef, undef, undef, undef, undef, undef, undef, undef, undef, undef, undef, undef, undef, undef, undef, undef, undef, undef, undef, undef, undef, undef, undef, undef, undef, undef, undef, undef, undef, undef, undef, undef, undef, undef, undef, undef, undef, undef, undef, undef, undef, undef, undef, undef, undef, undef, undef, undef, undef, undef, undef, undef], defers := [] }) ?ax ?assign ?body ?done ?stop
  case ax =>
    rintro v a' s W W' row ⟨b, hb, hc, rfl⟩ hg hr
    refine ⟨b, hb, fun j hj => ?_, rfl⟩
    obtain ⟨u, hu⟩ : ∃ u, #[Value.int .u8 v.node.f0, .int .i64 v.node.f1, .string v.node.f2, .slice v.nA v.node.f3.length v.nc][j]? = some u := ⟨_, Array.getElem?_eq_getElem (by simpa using hj)⟩
    rw [hu]
    exact cell_kept ((hc j hj).trans hu) hg (fun r e => (hr r e).2)
  case assign =>
    intro l pre v W K hi hkn hWs hK
    simp only [Vis.enc]
    gi_wp2
    have hb : Below W.heap.size W (W.alloc (.cells #[Value.int .u8 v.node.f0, .int .i64 v.node.f1, .string v.node.f2, .slice v.nA v.node.f3.length v.nc] 24)) := (Below.refl _ _).alloc (Nat.le_refl _) _
    exact hK _ _ (KeepsOthers.of_below hb) (But3.of_below hb) (KpI.stays _ _ pre _ _ hi hb) ⟨hkn.1.below hb, hkn.2⟩ ⟨_, Nat.le_trans (Nat.le_add_right _ 2) hWs, fun j _ => box_new _ _ _ j, rfl⟩
  case body =>
    rintro l pre v a' W hI hkn ⟨b, hb, hcb, rfl⟩ hsp hWs
    have hmem : (v.path, v.node) ∈ wkN [] x := hsp.subset (by rw [List.map_append]; exact List.mem_append_right _ (List.mem_singleton.2 rfl))
    have hat := wk_at0 hmem
    have hszn : szN v.node ≤ szN x := wk_sz x [] _ hmem
    have hnx : (pthN x)[pre.length]? = some v.path := by rw [← wk_path0, List.getElem?_map, prefix_next hsp]; rfl
    have hpre := (List.getElem?_eq_some_iff.1 hnx).1
    have hplen := pth_len x
    obtain ⟨path, pv, node, nA, nc⟩ := v
    dsimp only at *
    obtain ⟨Av, cv, rfl⟩ : ∃ Av cv, pv = .slice Av path.length cv := own_slice hkn.1
    obtain ⟨hBu, kv, hk0, hrow, hps⟩ := hI
    obtain ⟨Ak, ck, rfl⟩ := own_slice hrow
    obtain ⟨aw, Ap, cp, rfl, hew, hpl, hCp⟩ := at_L4 (HCW.out W hBu) (pre.length : Int) (by omega) (by omega)
    have hrd : rd_L4 (pthN x) (pre.length : Int) = path := by rw [rd_list _ _ hpre]; exact (List.getElem?_eq_some_iff.1 hnx).2
    rw [hrd] at hew hpl hCp
    simp only [Int.toNat_natCast] at hew
    have HN : Aside0 (∀ w', Below W.heap.size W w' → ∀ j, w'.cell? ⟨w.heap.size, j, none⟩ = #[.int .u8 x.f0, .int .i64 x.f1, .string x.f2, .slice A x.f3.length c][j]?) := ⟨fun w' h j => ((hBu.below h).cell (b := w.heap.size) (j := j) (by omega) (fun o => kpOwn_lt (m := S) (by omega) (by omega) _ o (by omega))).trans (hW.law.n j)⟩
    have hlb : b < W.heap.size := World.block_lt_of_cell? W ⟨b, 0, none⟩ (hcb 0 (by decide))
    have HM : Aside0 (∀ w', Below W.heap.size W w' → ∀ j, j < 4 → w'.cell? ⟨b, j, none⟩ = #[Value.int .u8 node.f0, .int .i64 node.f1, .string node.f2, .slice nA node.f3.length nc][j]?) := ⟨fun w' h j hj => (h.cell (p := ⟨b, j, none⟩) hlb).trans (hcb j hj)⟩
    have HWT : Aside0 (∀ w', Below W.heap.size W w' → w'.cell? ⟨S, 0, none⟩ = some (.slice (some aw) (pthN x).length cw)) := ⟨fun w' h => ((hBu.below h).cell (b := S) (j := 0) (by omega) (fun o => kpOwn_lt (m := S + 1) (by omega) (by omega) _ o (by omega))).trans hW.want.1⟩
    have HKT : Aside0 (∀ w', Below W.heap.size W w' → Box1 w' (S + 1) (.slice Ak pre.length ck)) := ⟨fun w' h => hk0.below h⟩
    have HEW : Aside0 (∀ w', Below W.heap.size W w' → w'.cell? (aw.add pre.length) = some (.slice Ap path.length cp)) := ⟨fun w' h => pw_cell_below h hew⟩
    have HAC : Aside0 (∀ w', Below W.heap.size W w' → Calls Tryd.prog 37 #[nodeV x A c, .slice Ap path.length cp] w' fun e w'' => ∃ A' c', e = .returned (.tuple #[nodeV node A' c', .bool true]) ∧ TreeAt (But3 (kpOwn (S + 1) Wl.heap.size) Wl) node A' c' ∧ Below w'.heap.size w' w'') := ⟨fun w' h => by
      have h2 := at_rT (But3 (kpOwn (S + 1) Wl.heap.size) Wl) x A c Ap cp path w' (hBu.below h) HTX.out (Kd.C_below hCp h)
      rw [hat] at h2
      exact h2⟩
    have HBU := Aside0.mk hBu
    have HKN := Aside0.mk hkn
    have HROW := Aside0.mk hrow
    have HPS := Aside0.mk hps
    have HSZN : Aside0 (szN node ≤ 1152921504606846976) := ⟨Nat.le_trans hszn (Nat.le_trans hs (by decide))⟩
    have HP5 : Aside0 (pre.length ≤ 500) := ⟨by omega⟩
    have hk1 := hk0.1
    have hw1 := HWT.out W (Below.refl _ _)
    generalize (pthN x).length = np at *
    clear hkn hsp hmem hat hcb hBu hrow hps hew hpl hCp hrd hnx hk0 hplen hszn
    gi_wp2
    refine region_round_held (fun w' => Below W.heap.size W w') rfl (by kernel_rfl) (Below.refl _ W).drew (fun hHeld => ?_)
    clear hk1 hw1
    refine held_take 0 (v := _) rfl (by kernel_rfl) (by kernel_rfl) (by kernel_rfl) (by rfl) (by assumption) (fun w' hSw => by
      have hn := HN.out w' hSw
      go_simp
      try with_reducible rfl) ?_
    try simp only [Act.put, List.setIfInBounds_toArray, List.set_cons_zero, List.set_cons_succ]
    refine held_take 1 (v := _) rfl (by kernel_rfl) (by kernel_rfl) (by kernel_rfl) (by rfl) (by assumption) (fun w' hSw => by
      have hn := HWT.out w' hSw
      go_simp
      try with_reducible rfl) ?_
    try simp only [Act.put, List.setIfInBounds_toArray, List.set_cons_zero, List.set_cons_succ]
    refine held_take 2 (v := _) rfl (by kernel_rfl) (by kernel_rfl) (by kernel_rfl) (by rfl) (by assumption) (fun w' hSw => by
      have hn := (HKT.out w' hSw).1
      go_simp
      try with_reducible rfl) ?_
    try simp only [Act.put, List.setIfInBounds_toArray, List.set_cons_zero, List.set_cons_succ]
    refine held_take 3 (v := _) rfl (by kernel_rfl) (by kernel_rfl) (by kernel_rfl) (by rfl) (by assumption) (fun w' hSw => by
      skip
      go_simp
      try with_reducible rfl) ?_
    try simp only [Act.put, List.setIfInBounds_toArray, List.set_cons_zero, List.set_cons_succ]
    refine held_take 4 (v := _) rfl (by kernel_rfl) (by kernel_rfl) (by kernel_rfl) (by rfl) (by assumption) (fun w' hSw => by
      skip
      go_simp
      try with_reducible rfl) ?_
    try simp only [Act.put, List.setIfInBounds_toArray, List.set_cons_zero, List.set_cons_succ]
    refine held_take 5 (v := _) rfl (by kernel_rfl) (by kernel_rfl) (by kernel_rfl) (by rfl) (by assumption) (fun w' hSw => by
      have hn := HEW.out w' hSw
      go_simp
      try with_reducible rfl) ?_
    try simp only [Act.put, List.setIfInBounds_toArray, List.set_cons_zero, List.set_cons_succ]
    refine wpAnyH_ready (rs := [6, 10]) (by kernel_rfl) (by simp) ?_
    refine held_cons rfl (by rfl) (fun K hK => ?_) ?_
    · unfold Oper.wp
      go_simp
      refine (HAC.out _ (by assumption)).mono ?_
      rintro e w4 ⟨A4, c4, rfl, hA4, hB4⟩
      have HA4 := Aside0.mk hA4
      clear hA4
      refine hK.out _ _ (hHeld.trans (hB4.mono hHeld.size)) (fun hHeld => ?_)
      clear hK K
      try simp only [Act.put, List.setIfInBounds_toArray, List.set_cons_zero, List.set_cons_succ]
      have hH4 := hHeld
      refine held_take 7 (v := _) rfl (by kernel_rfl) (by kernel_rfl) (by kernel_rfl) (by rfl) (by assumption) (fun w' hSw => by
        skip
        go_simp
        try with_reducible rfl) ?_
      try simp only [Act.put, List.setIfInBounds_toArray, List.set_cons_zero, List.set_cons_succ]
      refine held_take 8 (v := _) rfl (by kernel_rfl) (by kernel_rfl) (by kernel_rfl) (by rfl) (by assumption) (fun w' hSw => by
        skip
        go_simp
        try with_reducible rfl) ?_
      try simp only [Act.put, List.setIfInBounds_toArray, List.set_cons_zero, List.set_cons_succ]
      refine held_take 9 (v := _) rfl (by kernel_rfl) (by kernel_rfl) (by kernel_rfl) (by rfl) (by assumption) (fun w' hSw => by
        skip
        go_simp
        try with_reducible rfl) ?_
      try simp only [Act.put, List.setIfInBounds_toArray, List.set_cons_zero, List.set_cons_succ]
      refine wpAnyH_ready (rs := [10]) (by kernel_rfl) (by simp) ?_
      refine held_cons rfl (by rfl) (fun K hK => ?_) ?_
      · unfold Oper.wp
        go_simp
        refine hK.out _ _ (hHeld.alloc hHeld.size _) (fun hHeld => ?_)
        clear hK K
        try simp only [Act.put, List.setIfInBounds_toArray, List.set_cons_zero, List.set_cons_succ]
        refine wpAnyH_ready (rs := [11]) (by kernel_rfl) (by simp) ?_
        refine held_cons rfl (by rfl) (fun K hK => ?_) ?_
        · unfold Oper.wp
          go_simp
          refine hK.out _ _ (hH4.alloc hH4.size _) (fun hHeld => ?_)
          clear hK K
          try simp only [Act.put, List.setIfInBounds_toArray, List.set_cons_zero, List.set_cons_succ]
          refine held_take 12 (v := _) rfl (by kernel_rfl) (by kernel_rfl) (by kernel_rfl) (by rfl) (by assumption) (fun w' hSw => by
            skip
            go_simp
            try with_reducible rfl) ?_
          try simp only [Act.put, List.setIfInBounds_toArray, List.set_cons_zero, List.set_cons_succ]
          refine wpAnyH_done (by kernel_rfl) ?_ _
          refine cutR_world (fun W' => Below W.heap.size W W' ∧ ∀ j, W'.cell? ⟨w4.heap.size, j, none⟩ = #[Value.int .u8 node.f0, .int .i64 node.f1, .string node.f2, .slice A4 node.f3.length c4][j]?) ?pr (fun W2 hW2 => ?_)
          case pr => exact ⟨hHeld, fun j => box_new _ _ _ j⟩
          obtain ⟨hW2, hcb⟩ := hW2
          have HW2 := Aside0.mk hW2
          have HA4' := Aside0.mk HA4.out
          clear hW2
          have hcm := fun j (hj : j < 4) => HM.out W2 HW2.out j hj
          have hm0 := hcm 0 (by decide)
          have hm1 := hcm 1 (by decide)
          have hm2 := hcm 2 (by decide)
          have hm3 := hcm 3 (by decide)
          clear hcm
          gi_wp2_with fail
          refine ⟨trivial, ?_⟩
          refine (callsIn_wide.2 (rEqual node node HSZN.out nA A4 nc c4 W2 (HKN.out.2.at (HBU.out.below HW2.out)) (HA4'.out.at (HBU.out.below HW2.out)))).mono ?_
          rintro e W3 ⟨rfl, hB3⟩
          rw [eqN_refl]
          have HW3 := Aside0.mk (HW2.out.trans (hB3.mono HW2.out.size))
          clear hB3 hm0 hm1 hm2 hm3 hcb
          obtain ⟨hk1, hkf⟩ := HKT.out W3 HW3.out
          have HW4 : Aside0 (Below W.heap.size W (W3.alloc (.cells #[.slice Av path.length cv] 34))) := ⟨HW3.out.alloc HW3.out.size _⟩
          have HR4 := Aside0.mk (pw_own_below HROW.out HW4.out)
          have hwb : Wl.heap.size ≤ W3.heap.size := Nat.le_trans HBU.out.size HW3.out.size
          obtain ⟨i0, hi, hzz⟩ := Option.map_eq_some_iff.1 info34
          simp only [Prod.mk.injEq] at hzz
          obtain ⟨hz0, hz1, hz2⟩ := hzz
          gi_wp2_with (gi_at_builtin; refine wpListIn_append_own _ rfl (.tmp 44) (.tmp 46) 29 rfl Wl.heap.size 34 i0 _ 1 24 Tryd.underlying29 hi hz0 hz1 hz2 rfl (by decide) _ pre.length (pre.map Vis.pv) rfl HR4.out ⟨W3.heap.size, 0, none⟩ 1 1 [.slice Av path.length cv] rfl rfl (one_cell (box_new W3 #[.slice Av path.length cv] 34 0)) (fun u hu => by simp at hu; subst hu; rfl) (by have := HP5.out; unfold maxLen; omega) (by have := HP5.out; omega) (by simp; omega) ?_; intro v' W5 hown hgrow hnil; obtain ⟨A5, c5, rfl⟩ := own_slice hown; have hkk := hgrow.block (S + 1) (HKT.out _ HW4.out).lt (fun e => by have := own_base HR4.out (S + 1) e.symm; omega); have hk5 : W5.cell? ⟨S + 1, 0, none⟩ = _ := (World.cell?_of_block (a := ⟨S + 1, 0, none⟩) hkk).trans (HKT.out _ HW4.out).1; have hf5 : W5.frozen? ⟨S + 1, 0, none⟩ = false := (World.frozen?_of_block (a := ⟨S + 1, 0, none⟩) hkk).trans (HKT.out _ HW4.out).2)
          exact KpI.step (v := ⟨path, .slice Av path.length cv, node, nA, nc⟩) HBU.out (HKT.out W (Below.refl _ _)) HROW.out HPS.out HKN.out.1 HW4.out hown hgrow (by omega)

        exact AllReadyH.nil

      exact AllReadyH.nil

    refine held_cons rfl (by rfl) (fun K hK => ?_) ?_
    · unfold Oper.wp
      go_simp
      refine hK.out _ _ (hHeld.alloc hHeld.size _) (fun hHeld => ?_)
      clear hK K
      try simp only [Act.put, List.setIfInBounds_toArray, List.set_cons_zero, List.set_cons_succ]
      refine wpAnyH_ready (rs := [6]) (by kernel_rfl) (by simp) ?_
      refine held_cons rfl (by rfl) (fun K hK => ?_) ?_
      · unfold Oper.wp
        go_simp
        refine (HAC.out _ (by assumption)).mono ?_
        rintro e w4 ⟨A4, c4, rfl, hA4, hB4⟩
        have HA4 := Aside0.mk hA4
        clear hA4
        refine hK.out _ _ (hHeld.trans (hB4.mono hHeld.size)) (fun hHeld => ?_)
        clear hK K
        try simp only [Act.put, List.setIfInBounds_toArray, List.set_cons_zero, List.set_cons_succ]
        refine held_take 7 (v := _) rfl (by kernel_rfl) (by kernel_rfl) (by kernel_rfl) (by rfl) (by assumption) (fun w' hSw => by
          skip
          go_simp
          try with_reducible rfl) ?_
        try simp only [Act.put, List.setIfInBounds_toArray, List.set_cons_zero, List.set_cons_succ]
        refine held_take 8 (v := _) rfl (by kernel_rfl) (by kernel_rfl) (by kernel_rfl) (by rfl) (by assumption) (fun w' hSw => by
          skip
          go_simp
          try with_reducible rfl) ?_
        try simp only [Act.put, List.setIfInBounds_toArray, List.set_cons_zero, List.set_cons_succ]
        refine held_take 9 (v := _) rfl (by kernel_rfl) (by kernel_rfl) (by kernel_rfl) (by rfl) (by assumption) (fun w' hSw => by
          skip
          go_simp
          try with_reducible rfl) ?_
        try simp only [Act.put, List.setIfInBounds_toArray, List.set_cons_zero, List.set_cons_succ]
        refine wpAnyH_ready (rs := [11]) (by kernel_rfl) (by simp) ?_
        refine held_cons rfl (by rfl) (fun K hK => ?_) ?_
        · unfold Oper.wp
          have hz := box_keep hB4 (by simp) (fun j => box_at W #[.int .u8 0, .int .i64 0, .string ⟨#[]⟩, .slice none 0 0] 24 W.heap.size j rfl)
          have hzf : ∀ j, w4.frozen? ⟨W.heap.size, j, none⟩ = false := fun j => (hB4.frozen (p := ⟨W.heap.size, j, none⟩) (by simp)).trans (frozen_at W #[.int .u8 0, .int .i64 0, .string ⟨#[]⟩, .slice none 0 0] 24 W.heap.size j rfl)
          go_simp
          refine hK.out _ _ (hHeld.trans (set4_below W.heap.size (Nat.le_refl _) _ _ _ _)) (fun hHeld => ?_)
          clear hK K
          try simp only [Act.put, List.setIfInBounds_toArray, List.set_cons_zero, List.set_cons_succ]
          refine held_take 12 (v := _) rfl (by kernel_rfl) (by kernel_rfl) (by kernel_rfl) (by rfl) (by assumption) (fun w' hSw => by
            skip
            go_simp
            try with_reducible rfl) ?_
          try simp only [Act.put, List.setIfInBounds_toArray, List.set_cons_zero, List.set_cons_succ]
          refine wpAnyH_done (by kernel_rfl) ?_ _
          refine cutR_world (fun W' => Below W.heap.size W W' ∧ ∀ j, W'.cell? ⟨W.heap.size, j, none⟩ = #[Value.int .u8 node.f0, .int .i64 node.f1, .string node.f2, .slice A4 node.f3.length c4][j]?) ?pr (fun W2 hW2 => ?_)
          case pr => exact ⟨hHeld, fun j => set4 w4 W.heap.size (box_keep hB4 (by simp) (fun j => box_at W #[.int .u8 0, .int .i64 0, .string ⟨#[]⟩, .slice none 0 0] 24 W.heap.size j rfl)) _ _ _ _ j⟩
          obtain ⟨hW2, hcb⟩ := hW2
          have HW2 := Aside0.mk hW2
          have HA4' := Aside0.mk HA4.out
          clear hW2
          have hcm := fun j (hj : j < 4) => HM.out W2 HW2.out j hj
          have hm0 := hcm 0 (by decide)
          have hm1 := hcm 1 (by decide)
          have hm2 := hcm 2 (by decide)
          have hm3 := hcm 3 (by decide)
          clear hcm
          gi_wp2_with fail
          refine ⟨trivial, ?_⟩
          refine (callsIn_wide.2 (rEqual node node HSZN.out nA A4 nc c4 W2 (HKN.out.2.at (HBU.out.below HW2.out)) (HA4'.out.at (HBU.out.below HW2.out)))).mono ?_
          rintro e W3 ⟨rfl, hB3⟩
          rw [eqN_refl]
          have HW3 := Aside0.mk (HW2.out.trans (hB3.mono HW2.out.size))
          clear hB3 hm0 hm1 hm2 hm3 hcb
          obtain ⟨hk1, hkf⟩ := HKT.out W3 HW3.out
          have HW4 : Aside0 (Below W.heap.size W (W3.alloc (.cells #[.slice Av path.length cv] 34))) := ⟨HW3.out.alloc HW3.out.size _⟩
          have HR4 := Aside0.mk (pw_own_below HROW.out HW4.out)
          have hwb : Wl.heap.size ≤ W3.heap.size := Nat.le_trans HBU.out.size HW3.out.size
          obtain ⟨i0, hi, hzz⟩ := Option.map_eq_some_iff.1 info34
          simp only [Prod.mk.injEq] at hzz
          obtain ⟨hz0, hz1, hz2⟩ := hzz
          gi_wp2_with (gi_at_builtin; refine wpListIn_append_own _ rfl (.tmp 44) (.tmp 46) 29 rfl Wl.heap.size 34 i0 _ 1 24 Tryd.underlying29 hi hz0 hz1 hz2 rfl (by decide) _ pre.length (pre.map Vis.pv) rfl HR4.out ⟨W3.heap.size, 0, none⟩ 1 1 [.slice Av path.length cv] rfl rfl (one_cell (box_new W3 #[.slice Av path.length cv] 34 0)) (fun u hu => by simp at hu; subst hu; rfl) (by have := HP5.out; unfold maxLen; omega) (by have := HP5.out; omega) (by simp; omega) ?_; intro v' W5 hown hgrow hnil; obtain ⟨A5, c5, rfl⟩ := own_slice hown; have hkk := hgrow.block (S + 1) (HKT.out _ HW4.out).lt (fun e => by have := own_base HR4.out (S + 1) e.symm; omega); have hk5 : W5.cell? ⟨S + 1, 0, none⟩ = _ := (World.cell?_of_block (a := ⟨S + 1, 0, none⟩) hkk).trans (HKT.out _ HW4.out).1; have hf5 : W5.frozen? ⟨S + 1, 0, none⟩ = false := (World.frozen?_of_block (a := ⟨S + 1, 0, none⟩) hkk).trans (HKT.out _ HW4.out).2)
          exact KpI.step (v := ⟨path, .slice Av path.length cv, node, nA, nc⟩) HBU.out (HKT.out W (Below.refl _ _)) HROW.out HPS.out HKN.out.1 HW4.out hown hgrow (by omega)

        exact AllReadyH.nil

      exact AllReadyH.nil

    exact AllReadyH.nil
  case done =>
    rintro D xs W hD hSx ⟨hB, kv, hk0, hrow, hps⟩ hK
    have e0 : xs.length = szN x := by have := congrArg List.length hSx; rw [List.length_map, wk_len] at this; exact this
    have ep : xs.map Vis.path = pthN x := by rw [← wk_path0, ← hSx, List.map_map]; rfl
    have hpos := szN_pos x
    have hbw : Below w.heap.size w W := hW.law.below.trans (hB.under (n := w.heap.size) (fun k o hk => kpOwn_lt (by omega) (by omega) k o hk) (by omega))
    obtain ⟨g, cap, rfl⟩ := Joins.ownsRow_form hrow (by omega)
    have hww : W.cell? ⟨S, 0, none⟩ = some (.slice Aw (szN x) cw) := by
      have := (hB.cell (b := S) (j := 0) (by omega) (fun o => kpOwn_lt (m := S + 1) (by omega) (by omega) _ o (by omega))).trans hW.want.1
      rwa [pth_len] at this
    have hkk : W.cell? ⟨S + 1, 0, none⟩ = some (.slice (some ⟨g, 0, none⟩) (szN x) cap) := by rw [← e0]; exact hk0.1
    have hnn : ∀ j, W.cell? ⟨w.heap.size, j, none⟩ = #[.int .u8 x.f0, .int .i64 x.f1, .string x.f2, .slice A x.f3.length c][j]? := fun j => (hB.cell (b := w.heap.size) (j := j) (by omega) (fun o => kpOwn_lt (m := S) (by omega) (by omega) _ o (by omega))).trans (hW.law.n j)
    have hres : Box1 W (w.heap.size + 1) (.bool false) := ⟨(hB.cell (b := w.heap.size + 1) (j := 0) (by omega) (fun o => kpOwn_lt (m := S) (by omega) (by omega) _ o (by omega))).trans hW.law.res.1, (hB.frozen (b := w.heap.size + 1) (j := 0) (by omega) (fun o => kpOwn_lt (m := S) (by omega) (by omega) _ o (by omega))).trans hW.law.res.2⟩
    have hlt2 : S + 1 + 1 < W.heap.size := by have := hB.size; omega
    have HPT : Aside0 (∀ k, k < szN x → ∃ (p : List Int) (Ap : Option Addr) (cp : Nat) (Av : Option Addr) (cv : Nat) (ad : Addr), Aw = some ad ∧ (∀ w', Below W.heap.size W w' → w'.cell? (ad.add k) = some (.slice Ap p.length cp)) ∧ (∀ w', Below W.heap.size W w' → w'.cell? ⟨g, k, none⟩ = some (.slice Av p.length cv)) ∧ ∀ w', Below W.heap.size W w' → Calls Tryd.prog 39 #[.slice Av p.length cv, .slice Ap p.length cp] w' fun e w'' => e = .returned (.bool true) ∧ Below w'.heap.size w' w'') := ⟨fun k hk => by
      have hkx : k < xs.length := by omega
      obtain ⟨Av, cv, e1, hl1, hC1⟩ := path_C (hps xs[k] (List.getElem_mem hkx))
      obtain ⟨ad, Ap, cp, rfl, hew, hpl, hCp⟩ := at_L4 (HCW.out W hB) (k : Int) (by omega) (by rw [pth_len]; omega)
      have hpk : (pthN x)[k]? = some xs[k].path := by rw [← ep, List.getElem?_map, List.getElem?_eq_getElem hkx]; rfl
      have hrd : rd_L4 (pthN x) (k : Int) = xs[k].path := by rw [rd_list _ _ (List.getElem?_eq_some_iff.1 hpk).1]; exact (List.getElem?_eq_some_iff.1 hpk).2
      rw [hrd] at hew hpl hCp
      simp only [Int.toNat_natCast] at hew
      have hcell := hrow.cells (g := g) rfl k xs[k].pv (by rw [List.getElem?_map, List.getElem?_eq_getElem hkx]; rfl)
      rw [add_plain, e1] at hcell
      refine ⟨xs[k].path, Ap, cp, Av, cv, ad, rfl, fun w' h => pw_cell_below h hew, fun w' h => pw_cell_below h hcell, fun w' h => ?_⟩
      have hpm : xs[k].path ∈ pthN x := List.mem_of_getElem? hpk
      have hpl2 := pth_short x _ hpm
      obtain ⟨q, hq⟩ := (intsT xs[k].path (by omega)).ex
      exact (ontimelaw12_ints.calls q Av cv xs[k].path Ap cp xs[k].path true w' (Kd.C_below hC1 h) hl1 (Kd.C_below hCp h) hpl hq).mono fun e w'' ⟨he, hd⟩ => ⟨he, hd.below⟩⟩
    have HK := Aside0.mk hK
    have HD := Aside0.mk (Nat.le_trans (show w.heap.size ≤ Wl.heap.size by omega) hD)
    have HBW := Aside0.mk hbw
    have HRES := Aside0.mk hres
    have HNN := Aside0.mk hnn
    have HWW := Aside0.mk hww
    have HKK := Aside0.mk hkk
    have hN5 : szN x ≤ 500 := hs
    have HSZ : Aside0 (szN x = szN x) := ⟨rfl⟩
    have hDl := (Array.getElem?_eq_some_iff.1 hK).1
    have hDu : D < Wl.heap.size + 2 ∨ True := Or.inr trivial
    have HV := Aside0.mk hv
    clear hB hrow hps hSx hK hres hbw e0 ep hk0 hv
    generalize hNe : szN x = N at *
    gi_wp2
    gi_loopw [55] (fun v wr => ∃ k : Nat, k ≤ N ∧ v = .int .i64 k ∧ Aside0 (Below W.heap.size W wr)) (fun v _ => N - (intOf v).toNat)
    case atStart => exact ⟨0, Nat.zero_le _, rfl, ⟨Below.refl _ _⟩⟩
    case round =>
      obtain ⟨k, hk, rfl, HBR⟩ := hrel
      by_cases hlt : k < N
      · obtain ⟨p, Ap, cp, Av, cv, ad, rfl, hq1, hq2, hq3⟩ := HPT.out k hlt
        have HQ1 := Aside0.mk hq1
        have HQ2 := Aside0.mk hq2
        have HQ3 := Aside0.mk hq3
        clear hq1 hq2 hq3
        gi_wp2
        refine wpIn_wide.2 ?_
        refine wp_region_quiet (C := fun w' => Below W.heap.size W w') (by kernel_rfl) (by kernel_rfl) HBR.out.drew ?_
        iterate 10
          refine wpQuiet_step (fun K hK => ?_)
          rw [if_pos (by rfl)]
          first
            | (apply quiet_val
               intro w' hw'
               have ha := (HBR.out.trans (Below.refl _ _)).size
               have hc1 : w'.cell? ⟨S, 0, none⟩ = some (.slice (some ad) N cw) := pw_cell_below hw' HWW.out
               have hc2 : w'.cell? ⟨S + 1, 0, none⟩ = some (.slice (some ⟨g, 0, none⟩) N cap) := pw_cell_below hw' HKK.out
               have hc3 := HQ1.out w' hw'
               have hc4 := HQ2.out w' hw'
               go_simp
               try exact rfl
               refine hK _ ?_)
            | (apply quiet_call
               intro w' hw'
               go_simp
               first | exact rfl | exact ⟨rfl, rfl⟩
               intro w' hw'
               with_reducible exact (HQ3.out w' hw').mono fun e w'' ⟨he, hb⟩ => ⟨he, hw'.trans (hb.mono hw'.size)⟩
               refine hK _ ?_)
          clear hK K
          simp only [Act.put, List.setIfInBounds_toArray, List.set_cons_zero, List.set_cons_succ]
        refine wpQuiet_nil ?_
        intro w5 hB5
        have HB5 := Aside0.mk hB5
        clear hB5
        gi_wp2
        case roundEnd => exact ⟨⟨k + 1, hlt, by go_num, HB5⟩, by simp [intOf]; omega⟩
      · have ek : k = N := by omega
        subst ek
        have hu : 0 ≤ u ∧ u ≤ 65535 := by have := HV.out; simp [Lit.wf, IntKind.min, IntKind.max, IntKind.signed, IntKind.bits] at this; omega
        have hc1 : wr.cell? ⟨S, 0, none⟩ = some (.slice Aw k cw) := pw_cell_below HBR.out HWW.out
        have hne : ¬ (k : Int) = 0 := by omega
        have hN1 : (1 : Int) ≤ k := by omega
        obtain ⟨M, hM, hM1, hMk⟩ : ∃ M : Nat, wrap64 (1 + u % (k : Int)) = (M : Int) ∧ 1 ≤ M ∧ M ≤ k := by
          have h0 := Int.emod_nonneg u hne
          have h1 := Int.emod_lt_of_pos u (show (0 : Int) < k by omega)
          refine ⟨(1 + u % (k : Int)).toNat, ?_, by omega, by omega⟩
          rw [w64 (by omega) (by omega)]
          omega
        have hb2 : Below wr.heap.size wr ((wr.alloc (.cells #[.int .i64 M] 3)).alloc (.cells #[.int .i64 0] 3)) := ((Below.refl _ wr).alloc (Nat.le_refl _) _).alloc (by simp) _
        have hnr : ∀ j, ((wr.alloc (.cells #[.int .i64 M] 3)).alloc (.cells #[.int .i64 0] 3)).cell? ⟨w.heap.size, j, none⟩ = #[.int .u8 x.f0, .int .i64 x.f1, .string x.f2, .slice A x.f3.length c][j]? := fun j => ((HBR.out.trans (hb2.mono HBR.out.size)).cell (p := ⟨w.heap.size, j, none⟩) (by show w.heap.size < _; omega)).trans (HNN.out j)
        have HM3 := Aside0.mk (And.intro hM1 hMk)
        clear hb2
        gi_wp2_with (first
          | ((try refine ⟨trivial, ?_⟩); (try refine ⟨fun _ => by omega, ?_⟩); gi_at_call 36; refine (callsIn_wide.2 (WalkF x A c _)).mono ?_; rintro e w4 ⟨rfl, rfl⟩)
          | fail)
        refine at_world (Wlk2 w #[.int .u8 x.f0, .int .i64 x.f1, .string x.f2, .slice A x.f3.length c] wr.heap.size M D) (Wlk2.of HBW.out (show w.heap.size + 2 ≤ W.heap.size by omega) HBR.out HRES.out HK.out) (fun V hV => ?_)
        have HBRS := Aside0.mk HBR.out.size
        have hDS : D < wr.heap.size := Nat.lt_of_lt_of_le hDl HBR.out.size
        obtain ⟨hM1, hMk⟩ := HM3.out
        clear hnr hc1 hM hne hN1 hu HM3
        generalize wr.heap.size = S2 at *
        have hV2 := hV.le
        have hVs := hV.size
        have hAt2 : TreeAt (But (fun b => b = S2 + 1) V) x A c := (treeAt_of w _ x A c (Nat.le_refl _) HA.out).mono (fun W' h => hV.below.trans (h.under (n := w.heap.size) (fun k hk e => by omega) (by omega)))
        refine range_known2 (n := 5) (by omega) (gf := 89) (lb := #[.pointer (some ⟨S2 + 1 + 1, 0, none⟩)]) rfl enter_Walk1
          (Walk_known (But (fun b => b = S2 + 1) V) (fun b => b = S2 + 1) V (S2 + 1 + 1) x A c (But.refl _ _) (fun _ _ h h' => h.below h') (fun _ _ h h' => h.owned h') (fun k e => by omega) hAt2 hV.wlk (by omega) (by omega)) (fun _ => rfl) (fun x => Kn_own _ _ _ x)
          (fun (pre : List Vis) W' => But (fun b => b = S2 + 1) V W' ∧ Box1 W' (S2 + 1) (.int .i64 pre.length) ∧ pre.length < M) (fun c' _ W' => c' = Code.exit 4 ∧ But (fun b => b = S2 + 1) V W' ∧ Box1 W' (S2 + 1) (.int .i64 M))
          (fun s A' B row h hg hr => ⟨But.own (β := List Vis) _ _ s A' B row h.1 hg hr, Box1.own _ _ (fun s : List Vis => .int .i64 s.length) s A' B row h.2.1 hg hr, h.2.2⟩) (fun s A' B h hb => ⟨h.1.below hb, h.2.1.below hb, h.2.2⟩)
          (fun c' s A' B row h hg hr => ⟨h.1, But.own (β := List Vis) _ _ s A' B row h.2.1 hg hr, Box1.own _ _ (fun s : List Vis => .int .i64 M) s A' B row h.2.2 hg hr⟩) (fun c' s A' B h hb => ⟨h.1, h.2.1.below hb, h.2.2.below hb⟩)
          ⟨But.refl _ _, hV.cnt, by show 0 < M; omega⟩
          (fun v a' _ => a' = { tmps := #[nodeV x A c, .int .u16 u, .pointer (some ⟨w.heap.size, 0, none⟩), undef, .pointer (some ⟨w.heap.size + 1, 0, none⟩), .pointer (some ⟨S, 0, none⟩), .pointer (some ⟨S + 1, 0, none⟩), undef, undef, undef, undef, u11, .pointer (some ⟨S2, 0, none⟩), .pointer (some ⟨S2 + 1, 0, none⟩), .bool true, .bool false, .agg #[.int .u8 x.f0, .int .i64 x.f1, .string x.f2, .slice A x.f3.length c], .int .i64 0, .bool false, .agg #[.int .u8 x.f0, .int .i64 x.f1, .string x.f2, .slice A x.f3.length c], .slice Aw (pthN x).length cw, .agg #[.int .u8 x.f0, .int .i64 x.f1, .string x.f2, .slice A x.f3.length c], .func (.func 89) #[] #[.pointer (some ⟨S + 1 + 1, 0, none⟩)], undef, undef, undef, undef, undef, undef, undef, undef, undef, undef, undef, undef, undef, undef, undef, undef, undef, undef, undef, undef, undef, undef, undef, undef, undef, .slice (some ⟨g, 0, none⟩) k cap, .int .i64 k, .slice Aw k cw, .int .i64 k, .bool false, .slice Aw k cw, .int .i64 k, .int .i64 k, .bool false, u57, u58, u59, u60, u61, u62, u63, u64, u65, u66, u67, u68, .int .u16 u, .int .i64 u, .slice Aw k cw, .int .i64 k, .int .i64 (u % k), .int .i64 M, .agg #[.int .u8 x.f0, .int .i64 x.f1, .string x.f2, .slice A x.f3.length c], .func (.func 89) #[] #[.pointer (some ⟨S2 + 1 + 1, 0, none⟩)], v.pv, nodeV v.node v.nA v.nc, undef, undef, undef, undef, undef, undef, undef, undef], defers := [] }) (fun _ _ _ _ _ _ h _ _ => h) ?assign2 ?body2 ?done2 ?stop2
        case assign2 =>
          intro l pre v W' K hi hkn hWs hK'
          simp only [Vis.enc]
          gi_wp2
          exact hK' _ _ (KeepsOthers.refl _) (But.refl _ _) hi hkn rfl
        case body2 =>
          rintro l pre v a' W' ⟨hBu, hk1, hlt1⟩ hkn rfl hsp hWs
          obtain ⟨q1, q2⟩ := hk1
          have q3 : ∀ z, (W'.setCell ⟨S2 + 1, 0, none⟩ z).cell? ⟨S2, 0, none⟩ = some (.int .i64 M) := fun z => (cell_far (p := ⟨S2 + 1, 0, none⟩) (a := ⟨S2, 0, none⟩) (by show S2 ≠ S2 + 1; omega) z).trans ((hBu.cell (b := S2) (j := 0) (by omega) (by omega)).trans hV.most.1)
          have hl5 : pre.length + 1 ≤ 500 := by omega
          have HQ := Aside0.mk (show Box1 W' (S2 + 1) _ from ⟨q1, q2⟩)
          have HBu := Aside0.mk hBu
          clear hBu
          have e4 : But (fun b => b = S2 + 1) W' (W'.setCell ⟨S2 + 1, 0, none⟩ (.int .i64 (pre.length + 1))) := (But.refl _ W').setCell _ _ rfl
          by_cases hM : pre.length + 1 = M
          · have hq : ((pre.length : Int) + 1 == (M : Int)) = true := by simp; omega
            have eM : (M : Int) = (pre.length : Int) + 1 := by omega
            gi_wp2
            refine ⟨KeepsOthers.setCell _ _ _, e4, rfl, HBu.out.trans e4, ?_⟩
            rw [eM]
            exact HQ.out.set _
          · have hq : ((pre.length : Int) + 1 == (M : Int)) = false := by simp; omega
            gi_wp2
            refine ⟨KeepsOthers.setCell _ _ _, e4, HBu.out.trans e4, ?_, by simp; omega⟩
            rw [List.length_append]
            exact HQ.out.set _
        case done2 =>
          rintro D2 xs2 W' _ hSx ⟨_, _, hlt1⟩ _
          exfalso
          have := congrArg List.length hSx
          rw [List.length_map, wk_len] at this
          omega
        case stop2 =>
          rintro D2 c' pre W' hD2 hSp ⟨rfl, hBu, hk1⟩ hK2
          have q1 := hk1.1
          have q2 : W'.cell? ⟨S2, 0, none⟩ = some (.int .i64 M) := (hBu.cell (b := S2) (j := 0) (by omega) (by omega)).trans hV.most.1
          have hr1 : W'.cell? ⟨w.heap.size + 1, 0, none⟩ = some (.bool false) := (hBu.cell (b := w.heap.size + 1) (j := 0) (by omega) (by omega)).trans hV.res.1
          have hr2 : W'.frozen? ⟨w.heap.size + 1, 0, none⟩ = false := (hBu.frozen (b := w.heap.size + 1) (j := 0) (by omega) (by omega)).trans hV.res.2
          have HBF : Aside0 (Below w.heap.size w W') := ⟨hV.below.trans (hBu.under (n := w.heap.size) (fun k hk e => by omega) (by omega))⟩
          have HKD : Aside0 (W'.heap[D]? = some (.deferred (some []))) := ⟨(hBu.block D (by omega) (by omega)).trans hV.kd⟩
          have HK2 := Aside0.mk hK2
          clear hBu hk1 hK2
          gi_wp2
          exact leave2 rfl rfl (World.cell?_setCell_same' _ _ _ (by rw [hr1]; rfl)) (HBF.out.setCell (p := ⟨w.heap.size + 1, 0, none⟩) (by show w.heap.size ≤ w.heap.size + 1; omega) _) (by omega) ((KeepsOthers.setCell _ _ _).same D2 _ HK2.out rfl) HD.out (by omega) ((KeepsOthers.setCell _ _ _).same D _ HKD.out rfl)
  case stop =>
    rintro D c pre W _ _ h _
    exact h.elim
theorem lawWalk (x : Nd) (A : Option Addr) (c : Nat) (u : Int) (w : World) (hT : TabOk w) (hA : At w x A c) (hv : (Lit.int .u16 u).wf = true) :
    Calls Tryd.prog 5 #[nodeV x A c, .int .u16 u] w fun e w' => e = .returned (.bool true) ∧ Below w.heap.size w w' := by
  rcases big_ok x with hb | ⟨hb, hs, hd⟩
  · exact lawWalk_big x A c u w hT hA hb
  · exact lawWalk_main x A c u w hT hA hb hs hd hv
end Go.Proofs.YtmdbbfoejmakdaaDoor.Ha

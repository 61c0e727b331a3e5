/-
  The contracts of ast.walk and ast.Walk: the iterator hands over every node with its path, in pre-order. By this session, out of its own program (wip/gen).
-/
import Derived.Test.YtmdbbfoejmakdaaDoorHrng
import Derived.Test.YtmdbbfoejmakdaaDoorHfun
import Derived.Shelf.Abstract
import Derived.Shelf.RegionOpen
import Derived.WalkKit
import Derived.Lib.SliceRun
import Derived.Lib.Walk
import Derived.OwnWalkIn
import Derived.TacticsInMore
import Derived.LoopNIn
import Derived.LoopIn
namespace Go.Proofs.YtmdbbfoejmakdaaDoor.Ha
open Go.RowKit Go.Shelf Go.Proofs.YtmdbbfoejmakdaaDoorW.PrintWords Go.Proofs.YtmdbbfoejmakdaaDoorW.PrintLast Go.Proofs.YtmdbbfoejmakdaaDoorW.PrintMore Go.Proofs.YtmdbbfoejmakdaaDoor.P
set_option linter.unusedVariables false
set_option linter.unusedSimpArgs false
attribute [local go_sem] Oper.semAt_some

/-- A path in memory of its own, from block b on. -/
def pathAt (b : Nat) (W : World) (v : Value) (p : List Int) : Prop := W.ownsRow b 3 1 v p.length (p.map (Value.int .i64))
theorem pathAt.keep {b : Nat} {own : Nat → Prop} {W W' : World} {v : Value} {p : List Int} (h : pathAt b W v p) (ho : ∀ k, own k → k < b) (hk : But own W W') : pathAt b W' v p := by
  obtain ⟨h1, h2⟩ := h
  refine ⟨h1, ?_⟩
  rcases h2 with h2 | ⟨g, cap, cur, hv, hg, hh, r⟩
  · exact Or.inl h2
  · exact Or.inr ⟨g, cap, cur, hv, hg, (hk.block g (Array.getElem?_eq_some_iff.1 hh).1 (fun e => by have := ho g e; omega)).trans hh, r⟩
theorem pathAt.below {b : Nat} {W W' : World} {v : Value} {p : List Int} (h : pathAt b W v p) (hk : Below W.heap.size W W') : pathAt b W' v p := by
  obtain ⟨h1, h2⟩ := h
  refine ⟨h1, ?_⟩
  rcases h2 with h2 | ⟨g, cap, cur, hv, hg, hh, r⟩
  · exact Or.inl h2
  · exact Or.inr ⟨g, cap, cur, hv, hg, (hk.block g (Array.getElem?_eq_some_iff.1 hh).1).trans hh, r⟩
theorem pathAt.mono {b b' : Nat} {W : World} {v : Value} {p : List Int} (h : pathAt b W v p) (hb : b' ≤ b) : pathAt b' W v p := Joins.ownsRow_le h hb
theorem pathAt_own {β : Type} (B b : Nat) (v : β → Value) (p : β → List Int) : OwnFrom B (fun (s : β) W => pathAt b W (v s) (p s)) := fun s W W' row hs hg hr => by
  obtain ⟨h1, h2⟩ := hs
  refine ⟨h1, ?_⟩
  rcases h2 with h2 | ⟨g, cap, cur, hv, hgb, hh, r⟩
  · exact Or.inl h2
  · exact Or.inr ⟨g, cap, cur, hv, hgb, (grownBy_keeps_cells hg (fun r e => (hr r e).2) hh rfl).trans hh, r⟩
set_option maxHeartbeats 2000000 in
set_option maxRecDepth 100000 in
theorem cloneI (b : Nat) (v : Value) (p : List Int) (w : World) (h : pathAt b w v p) (hl : p.length ≤ 1000000) :
    Calls Tryd.prog 122 #[v] w fun e w' => ∃ v', e = .returned v' ∧ pathAt w.heap.size w' v' p ∧ Below w.heap.size w w' := by
  have q22 : ∀ (w : World) (a : Option Addr) (n c n' c' : Nat), (binOp .eql 34 (.slice a n c) (.slice none n' c')).run Tryd.prog w = .ok (.bool a.isNone) w := fun w a n c n' c' => Lib.run_eql_slice_nil w _ _ a n c n' c' Tryd.underlying34
  rcases Joins.ownsRow_forms h with ⟨rfl, hn⟩ | ⟨g, cap, rfl⟩
  · have hp : p = [] := List.eq_nil_of_length_eq_zero hn
    subst hp
    clear h
    go_enter Tryd.func122, Tryd.ntmps122
    go_wp2
    go_ret
    exact ⟨_, rfl, World.ownsRow_nil _ _ _ _, Below.refl _ _⟩
  · have hc := h.cells (g := g) rfl
    have HC := Aside0.mk hc
    have HL := Aside0.mk hl
    clear hc h hl
    obtain ⟨i0, hi, hz0, hz1, hz2⟩ := info_parts info3
    go_enter Tryd.func122, Tryd.ntmps122
    go_wp2_with (at_builtin; refine wpList_append_own _ rfl _ _ 34 rfl w.heap.size 3 i0 (.int .i64 0) 1 8 Tryd.underlying34 hi hz0 hz1 hz2 rfl (by decide) _ _ _ rfl (World.ownsRow_made w #[] 0 (Nat.le_refl _) (Nat.zero_le _) rfl) ⟨g, 0, none⟩ p.length cap (p.map (Value.int .i64)) rfl ?qc1 ?qc2 ?qc3 ?qc4 ?qc5 ?qc6 ?_)
    case qc1 => simp
    case qc2 =>
      intro j u hj
      exact Lib.cell?_alloc_some _ (HC.out j u hj)
    case qc3 => intro u hu; obtain ⟨x, _, rfl⟩ := List.mem_map.1 hu; rfl
    case qc4 => have := HL.out; unfold maxLen; omega
    case qc5 => have := HL.out; omega
    case qc6 => simp
    intro v' w1 hown hgrow hnil
    go_wp2
    go_ret
    refine ⟨v', rfl, ?_, ?_⟩
    · exact hown
    · exact ((Below.refl _ w).alloc (Nat.le_refl _) _).grown hgrow (by simp) (by intro k hk; simp [Value.ownBlock] at hk; omega)
/-- A visit: the path's value, the node and its row. -/
structure Vis where
  path : List Int
  pv : Value
  node : Nd
  nA : Option Addr
  nc : Nat
def Vis.key (v : Vis) : List Int × Nd := (v.path, v.node)
def Vis.enc (v : Vis) : Array Value := #[v.pv, nodeV v.node v.nA v.nc]
/-- A tree whose rows read the same in every world of a kind. -/
inductive TreeAt (G : World → Prop) : Nd → Option Addr → Nat → Prop
  | mk (x : Nd) (A : Option Addr) (c : Nat) (ad : Addr) (A3 : Nat → Option Addr) (c3 : Nat → Nat) (hl : x.f3.length ≤ 9223372036854775807) (hc : x.f3.length ≤ c) (hA : x.f3 ≠ [] → A = some ad)
      (h : ∀ k y, x.f3[k]? = some y → ∀ W, G W → ∀ i, i < 4 → W.cell? (ad.add (k * 4 + i)) = #[Value.int .u8 y.f0, .int .i64 y.f1, .string y.f2, .slice (A3 k) y.f3.length (c3 k)][i]?)
      (hk : ∀ k y, x.f3[k]? = some y → TreeAt G y (A3 k) (c3 k)) : TreeAt G x A c
theorem TreeAt.at {G : World → Prop} {x : Nd} {A : Option Addr} {c : Nat} (h : TreeAt G x A c) {W : World} (hW : G W) : At W x A c := by
  induction h with
  | mk x A c ad A3 c3 hl hc hA h hk ih =>
    refine ⟨⟨rfl, hl, fun hp => ⟨ad, hA (by intro e; rw [e] at hp; simp at hp), fun k y hy => ⟨_, rfl, k24_mk W y (ih k y hy).2 (ih k y hy).1, fun i u hu => ?_⟩⟩⟩, hc⟩
    have hi : i < 4 := by have := (List.getElem?_eq_some_iff.1 hu).1; simpa using this
    have := h k y hy W hW i hi
    rw [show k * (kNd).sz + i = k * 4 + i from rfl, this]
    simpa using hu
theorem treeAt_of (w0 : World) : ∀ (n : Nat) (x : Nd) (A : Option Addr) (c : Nat), SizeOf.sizeOf x ≤ n → At w0 x A c → TreeAt (Below w0.heap.size w0) x A c := by
  intro n
  induction n with
  | zero => intro x A c hn; exact absurd hn (by cases x; simp)
  | succ n ih =>
    intro x A c hn hA
    obtain ⟨⟨h1, h2, h3⟩, hc⟩ := hA
    by_cases he : x.f3 = []
    · exact .mk x A c ⟨0, 0, none⟩ (fun _ => none) (fun _ => 0) h2 hc (fun h => absurd he h) (fun k y hy => by rw [he] at hy; simp at hy) (fun k y hy => by rw [he] at hy; simp at hy)
    · obtain ⟨ad, e, hc0⟩ := h3 (List.length_pos_iff.2 he)
      have H : ∀ k : Nat, ∃ (A3 : Option Addr), ∃ (c3 : Nat), ∀ y, x.f3[k]? = some y → (∀ i, i < 4 → w0.cell? (ad.add (k * 4 + i)) = #[Value.int .u8 y.f0, .int .i64 y.f1, .string y.f2, .slice A3 y.f3.length c3][i]?) ∧ At w0 y A3 c3 := fun k => by
        cases hk : x.f3[k]? with
        | none => exact ⟨none, 0, fun y hy => by cases hy⟩
        | some y =>
          obtain ⟨cs, hl, hK, hcell⟩ := hc0 k y hk
          obtain ⟨A3, c3, rfl, l3, g3⟩ := k24_open hK
          refine ⟨A3, c3, fun y' hy' => ?_⟩
          cases hy'
          refine ⟨fun i hi => ?_, g3, l3⟩
          have hh : ([Value.int .u8 y.f0, .int .i64 y.f1, .string y.f2, .slice A3 y.f3.length c3] : List Value)[i]? = some ([Value.int .u8 y.f0, .int .i64 y.f1, .string y.f2, .slice A3 y.f3.length c3][i]'(by simpa using hi)) := List.getElem?_eq_getElem _
          rw [show k * 4 + i = k * (kNd).sz + i from rfl, hcell i _ hh, ← hh]
          simp
      obtain ⟨A3, H⟩ := Classical.skolem.1 H
      obtain ⟨c3, H⟩ := Classical.skolem.1 H
      exact .mk x A c ad A3 c3 h2 hc (fun _ => e) (fun k y hy W hW i hi => by
        have := (H k y hy).1 i hi
        obtain ⟨u, hu⟩ : ∃ u, #[Value.int .u8 y.f0, .int .i64 y.f1, .string y.f2, .slice (A3 k) y.f3.length (c3 k)][i]? = some u := ⟨_, Array.getElem?_eq_getElem (by simpa using hi)⟩
        rw [hu] at this ⊢
        exact pw_cell_below hW this) (fun k y hy => ih y _ _ (by have := kid_lt (x := x) (y := y) (List.mem_of_getElem? hy); omega) (H k y hy).2)
def Vis.Kn (G : World → Prop) (b : Nat) (v : Vis) (W : World) : Prop := pathAt b W v.pv v.path ∧ TreeAt G v.node v.nA v.nc
mutual
/-- All nodes with their paths, in pre-order. -/
def wkN : List Int → Nd → List (List Int × Nd)
  | p, ⟨k, a, b, ks⟩ => (p, ⟨k, a, b, ks⟩) :: wkL p 0 ks
def wkL : List Int → Nat → List Nd → List (List Int × Nd)
  | _, _, [] => []
  | p, i, x :: r => wkN (p ++ [(i : Int)]) x ++ wkL p (i + 1) r
end
theorem wkN_eq (p : List Int) (x : Nd) : wkN p x = (p, x) :: wkL p 0 x.f3 := by cases x; rw [wkN]
theorem wkL_split (p : List Int) (l : List Nd) (i k : Nat) (x : Nd) (h : l[k]? = some x) : wkL p i l = wkL p i (l.take k) ++ (wkN (p ++ [((i + k : Nat) : Int)]) x ++ wkL p (i + k + 1) (l.drop (k + 1))) := by
  induction l generalizing i k with
  | nil => simp at h
  | cons y r ih =>
    cases k with
    | zero => simp at h; subst h; simp [wkL]
    | succ k =>
      simp at h
      rw [wkL, List.take_succ_cons, wkL, List.drop_succ_cons, ih (i + 1) k h]
      simp only [List.append_assoc]
      rw [show i + 1 + k = i + (k + 1) by omega]
theorem wkL_take (p : List Int) (l : List Nd) (i k : Nat) (x : Nd) (h : l[k]? = some x) : wkL p i (l.take (k + 1)) = wkL p i (l.take k) ++ wkN (p ++ [((i + k : Nat) : Int)]) x := by
  have h2 : (l.take (k + 1))[k]? = some x := by rw [List.getElem?_take_of_lt (by omega)]; exact h
  rw [wkL_split p (l.take (k + 1)) i k x h2, List.take_take, Nat.min_eq_left (by omega)]
  have : (l.take (k + 1)).drop (k + 1) = [] := by apply List.drop_eq_nil_of_le; simp; omega
  rw [this, wkL, List.append_nil]

/-- A cut behind a region. -/
def cutQ (R : Act → World → Prop) : Exit → Act → World → Prop
  | .normal, a, w => R a w
  | _, _, _ => False
theorem enter_walk (args : Array Value) (w : World) : (callFunc 90 args).run Tryd.prog w = .ok (.enter 90 args) w := by go_simp
theorem dpL_mem {l : List Nd} {y : Nd} (h : y ∈ l) : dpN y ≤ dpL l := by
  induction l with
  | nil => cases h
  | cons x r ih =>
    rw [dpL]
    cases h with
    | head => omega
    | tail _ h => have := ih h; omega
theorem tree_kid {G : World → Prop} {a0 a1 : Int} {a2 : ByteArray} {ks : List Nd} {A : Option Addr} {c : Nat} (h : TreeAt G ⟨a0, a1, a2, ks⟩ A c) {k : Nat} {x : Nd} (hx : ks[k]? = some x) :
    ∃ ad A3 c3, A = some ad ∧ (∀ W, G W → ∀ i, i < 4 → W.cell? (ad.add (k * 4 + i)) = #[Value.int .u8 x.f0, .int .i64 x.f1, .string x.f2, .slice A3 x.f3.length c3][i]?) ∧ TreeAt G x A3 c3 := by
  cases h with
  | mk _ _ _ ad A3 c3 hl hc hA h hk => exact ⟨ad, A3 k, c3 k, hA (by intro e; simp only at e; rw [e] at hx; simp at hx), h k x hx, hk k x hx⟩
theorem box_at (w : World) (cs : Array Value) (t : TypeId) (n j : Nat) (h : n = w.heap.size) : (w.alloc (.cells cs t)).drew.cell? ⟨n, j, none⟩ = cs[j]? := by subst h; exact box_new w cs t j
theorem one_cell {w : World} {A : Addr} {v : Value} (h : w.cell? A = some v) : ∀ j u, [v][j]? = some u → w.cell? (A.add j) = some u := by
  intro j u hu
  cases j with
  | zero => simp at hu; subst hu; simpa [Addr.add] using h
  | succ j => simp at hu
theorem path_snoc {b b' : Nat} {w : World} {v : Value} {p : List Int} {k : Int} (h : w.ownsRow b 3 1 v (p.length + 1) (p.map (Value.int .i64) ++ [.int .i64 k])) (hb : b' ≤ b) : pathAt b' w v (p ++ [k]) := by
  unfold pathAt
  have e1 : (p ++ [k]).length = p.length + 1 := by simp
  have e2 : (p ++ [k]).map (Value.int .i64) = p.map (Value.int .i64) ++ [.int .i64 k] := by simp
  rw [e1, e2]
  exact Joins.ownsRow_le h hb
/-- What is held while the next node's path is made. -/
structure Held (own : Nat → Prop) (wr : World) (cs : Array Value) (w' : World) : Prop where
  cells : ∀ j, w'.cell? ⟨wr.heap.size, j, none⟩ = cs[j]?
  keeps : But own wr w'
  lt : wr.heap.size < w'.heap.size
  ho : ∀ k, own k → k < wr.heap.size
theorem Held.start {own : Nat → Prop} {wr : World} (ho : ∀ k, own k → k < wr.heap.size) (cs : Array Value) (t : TypeId) : Held own wr cs (wr.alloc (.cells cs t)).drew :=
  ⟨fun j => box_new wr cs t j, But.of_below ((Below.refl _ _).alloc (Nat.le_refl _) _).drew, by simp, ho⟩
theorem Held.keep {own : Nat → Prop} {wr W W' : World} {cs : Array Value} (h : Held own wr cs W) (hk : But own W W') : Held own wr cs W' :=
  ⟨fun j => (World.cell?_of_block (hk.block _ h.lt (fun e => Nat.lt_irrefl _ (h.ho _ e)))).trans (h.cells j), h.keeps.trans hk, Nat.lt_of_lt_of_le h.lt hk.size, h.ho⟩
theorem Held.below {own : Nat → Prop} {wr W W' : World} {cs : Array Value} (h : Held own wr cs W) (hb : Below W.heap.size W W') : Held own wr cs W' := h.keep (But.of_below hb)
theorem Held.alloc {own : Nat → Prop} {wr W : World} {cs : Array Value} (h : Held own wr cs W) (o : Obj) : Held own wr cs (W.alloc o) := h.below ((Below.refl _ _).alloc (Nat.le_refl _) _)
theorem Held.grown {own : Nat → Prop} {wr W W' : World} {cs : Array Value} {row : Option Nat} (h : Held own wr cs W) (hg : W.grownBy W' row) (hr : ∀ k, row = some k → wr.heap.size < k) : Held own wr cs W' := by
  have hl := h.lt
  have hb : Below (wr.heap.size + 1) W W' := (Below.refl _ _).grown hg (by omega) (fun k e => by have := hr k e; omega)
  exact ⟨fun j => (hb.cell (p := ⟨wr.heap.size, j, none⟩) (by show wr.heap.size < _; omega)).trans (h.cells j), ⟨hg.os.trans h.keeps.os, hg.tape.trans h.keeps.tape, hg.output.trans h.keeps.output, Nat.le_trans h.keeps.size hg.size, fun k hk1 hk2 => (hb.block k (by omega)).trans (h.keeps.block k hk1 hk2)⟩, by have := hb.size; omega, h.ho⟩
theorem Held.allocD {own : Nat → Prop} {wr W : World} {cs : Array Value} (h : Held own wr cs W.drew) (o : Obj) : Held own wr cs (W.alloc o).drew := h.below ⟨rfl, rfl, rfl, by simp, fun k hk => Below.heap_alloc W o k hk⟩
theorem heldAnd {own : Nat → Prop} {wr W : World} {cs : Array Value} (h : Held own wr cs W) : (∀ j, W.cell? ⟨wr.heap.size, j, none⟩ = cs[j]?) ∧ Held own wr cs W := ⟨h.cells, h⟩
def WalkPost (own : Nat → Prop) (T : List (List Int × Nd)) (J Jx : List Vis → World → Prop) (p : List Int) (x : Nd) (pre : List Vis) (W : World) (e : Ending) (W' : World) : Prop :=
  ∃ b, e = .returned (.bool b) ∧ But own W W' ∧ (b = true → ∃ vs, vs.map Vis.key = wkN p x ∧ J (pre ++ vs) W') ∧ (b = false → ∃ vs, (pre ++ vs).map Vis.key <+: T ∧ Jx (pre ++ vs) W')
set_option maxHeartbeats 4000000 in
set_option maxRecDepth 100000 in
theorem walk_in (l n1 : Nat) (G : World → Prop) (own : Nat → Prop) (T : List (List Int × Nd)) (J Jx : List Vis → World → Prop) (hJ : Stays J) (hJx : Stays Jx) (hGB : ∀ W W', G W → Below W.heap.size W W' → G W') (hGO : ∀ W W', G W → But own W W' → G W') (hown : ∀ k, own k → k < n1)
    (hY : ∀ pre v W1, J pre W1 → Vis.Kn G n1 v W1 → (pre ++ [v]).map Vis.key <+: T → ∀ m, YieldAt Fence.wide m Tryd.prog l v.enc W1 fun e W' =>
      (e = .returned (.bool true) ∧ J (pre ++ [v]) W' ∧ But own W1 W') ∨ (e = .returned (.bool false) ∧ Jx (pre ++ [v]) W' ∧ But own W1 W')) :
    ∀ (n : Nat) (x : Nd) (A : Option Addr) (c : Nat) (p : List Int) (pv : Value) (pre : List Vis) (W : World) (m : Nat), SizeOf.sizeOf x ≤ n → TreeAt G x A c → pathAt n1 W pv p → G W → n1 ≤ W.heap.size → J pre W →
      (pre.map Vis.key ++ wkN p x) <+: T → p.length + dpN x ≤ 1000000 →
      CallsIn Fence.wide m Tryd.prog 90 #[nodeV x A c, pv, .func (.yield l) #[] #[]] W (WalkPost own T J Jx p x pre W) := by
  have hcl : ∀ (b m : Nat) (v : Value) (p : List Int) (w : World), pathAt b w v p → p.length ≤ 1000000 → CallsIn Fence.wide m Tryd.prog 122 #[v] w fun e w' => ∃ v', e = .returned v' ∧ pathAt w.heap.size w' v' p ∧ Below w.heap.size w w' := fun b m v p w h hl => callsIn_wide.2 (cloneI b v p w h hl)
  have hdd : ∀ k : Nat, (Fence.wide.depth.isSome = true → 1 ≤ k) := fun k h => by simp [Fence.wide] at h
  have hmx : Tryd.prog.follows .mixedOrders = true := by kernel_rfl
  intro n
  induction n with
  | zero => intro x A c p pv pre W m hn; exact absurd hn (by cases x; simp)
  | succ n ih =>
    rintro ⟨a0, a1, a2, ks⟩ A c p pv pre W m hn hAt hpv hB hW hJ0 hT hdp
    have hlen : ks.length ≤ 9223372036854775807 := by cases hAt; assumption
    have HIH := Aside0.mk ih
    have HJ := Aside0.mk hJ
    have HJx := Aside0.mk hJx
    have HY := Aside0.mk hY
    have HCL := Aside0.mk hcl
    have HPV := Aside0.mk hpv
    have HB := Aside0.mk hB
    have HT := Aside0.mk hT
    have HDP := Aside0.mk hdp
    have HAT := Aside0.mk hAt
    have HJ0 := Aside0.mk hJ0
    have HN := Aside0.mk hn
    have HW := Aside0.mk hW
    have HGB := Aside0.mk hGB
    have HGO := Aside0.mk hGO
    have HOW := Aside0.mk hown
    clear ih hJ hJx hY hcl hpv hB hT hdp hAt hJ0 hn hW hGB hGO hown
    have HC0 : Aside0 (∀ j, (W.alloc (.cells #[.int .u8 a0, .int .i64 a1, .string a2, .slice A ks.length c] 24)).drew.cell? ⟨W.heap.size, j, none⟩ = #[Value.int .u8 a0, .int .i64 a1, .string a2, .slice A ks.length c][j]?) := ⟨fun j => box_new W _ _ j⟩
    have HB0 : Aside0 (Below W.heap.size W (W.alloc (.cells #[.int .u8 a0, .int .i64 a1, .string a2, .slice A ks.length c] 24)).drew) := ⟨((Below.refl _ W).alloc (Nat.le_refl _) _).drew⟩
    refine callsIn_of_wp Tryd.func90 rfl trivial ?_ rfl
    simp only [Tryd.ntmps90, List.size_toArray, List.length_cons, List.length_nil, Nat.reduceAdd, Nat.reduceSub, Array.replicate_succ, Array.replicate_zero, List.push_toArray, List.append_toArray, List.nil_append, List.cons_append]
    gi_wp2
    have HYB : Aside0 (∀ v1 W1 m, pathAt n1 W1 v1 p → J pre W1 → YieldAt Fence.wide m Tryd.prog l #[v1, .agg #[.int .u8 a0, .int .i64 a1, .string a2, .slice A ks.length c]] W1 fun e W' => ∃ b, e = .returned (.bool b) ∧
        But own W1 W' ∧ (b = true → J (pre ++ [(⟨p, v1, ⟨a0, a1, a2, ks⟩, A, c⟩ : Vis)]) W') ∧ (b = false → Jx (pre ++ [(⟨p, v1, ⟨a0, a1, a2, ks⟩, A, c⟩ : Vis)]) W')) := ⟨fun v1 W1 m h1 h2 =>
      YieldAt.mono (HY.out pre ⟨p, v1, ⟨a0, a1, a2, ks⟩, A, c⟩ W1 h2 ⟨h1, HAT.out⟩ (by
        obtain ⟨r, hr⟩ := HT.out
        rw [wkN] at hr
        exact ⟨wkL p 0 ks ++ r, by simpa [Vis.key] using hr⟩) m) fun e W' h => by
          rcases h with ⟨h1, h2, h3⟩ | ⟨h1, h2, h3⟩
          · exact ⟨true, h1, h3, fun _ => h2, fun h => by cases h⟩
          · exact ⟨false, h1, h3, fun h => (by cases h), fun _ => h2⟩⟩
    obtain ⟨R1, HR1⟩ : ∃ R : Act → World → Prop, Aside0 (R = fun a W' => ∃ b v1, a = { tmps := #[nodeV ⟨a0, a1, a2, ks⟩ A c, pv, .func (.yield l) #[] #[], .pointer (some ⟨W.heap.size, 0, none⟩), undef, undef, .bool false, undef, undef, .func (.yield l) #[] #[], pv, v1, .agg #[.int .u8 a0, .int .i64 a1, .string a2, .slice A ks.length c], .bool b, .bool (!b), undef, undef, undef, undef, undef, undef, undef, undef, undef, undef, undef, undef, undef, undef, undef, undef, undef, undef], defers := [] } ∧ But own W W' ∧ (∀ j, W'.cell? ⟨W.heap.size, j, none⟩ = #[Value.int .u8 a0, .int .i64 a1, .string a2, .slice A ks.length c][j]?) ∧
        (b = true → J (pre ++ [(⟨p, v1, ⟨a0, a1, a2, ks⟩, A, c⟩ : Vis)]) W') ∧ (b = false → Jx (pre ++ [(⟨p, v1, ⟨a0, a1, a2, ks⟩, A, c⟩ : Vis)]) W')) := ⟨_, ⟨rfl⟩⟩
    refine wpIn_mono (Q := cutQ R1) ?_ ?_
    · gi_region_with_o (first
        | ((try refine ⟨trivial, ?_⟩); (try refine ⟨hdd _, ?_⟩); gi_at_call 122; refine (HCL.out n1 _ pv p _ (HPV.out.below HB0.out) (by have := HDP.out; omega)).mono ?_; rintro e W1 ⟨v1, rfl, hv1, hb1⟩; have g1 := box_keep hb1 (by simp) HC0.out; obtain ⟨fn, tmps, assign, body, hy, hR⟩ := HYB.out v1 W1 (m - 1) (hv1.mono (by have := HW.out; simp; omega)) (HJ.out _ _ _ HJ0.out (HB0.out.trans (hb1.mono HB0.out.size))); have HB1 := Aside0.mk hb1; clear hv1 hb1)
        | ((try refine ⟨trivial, ?_⟩); (try refine ⟨hdd _, ?_⟩); refine hR.mono ?_; clear hR hy; rintro e W2 ⟨b, rfl, hb2⟩; have H2 := Aside0.mk hb2; clear hb2))
      all_goals (
        show R1 _ _
        rw [HR1.out]
        have hk1 : But own W W1 := But.of_below (HB0.out.trans (HB1.out.mono HB0.out.size))
        refine ⟨b, v1, rfl, hk1.trans H2.out.1, fun j => ?_, H2.out.2.1, H2.out.2.2⟩
        rw [← g1 j]
        exact World.cell?_of_block (H2.out.1.block _ (by have := HB1.out.size; simp at this; show W.heap.size < _; omega) (fun e => by have h1 := HOW.out _ e; have h2 := HW.out; dsimp only at h1; omega)))
    intro e a W2 hcut
    cases e <;> first | exact False.elim hcut | skip
    replace hcut : R1 a W2 := hcut
    rw [HR1.out] at hcut
    clear HR1
    obtain ⟨b, v1, rfl, hk2, hg2, ht, hf⟩ := hcut
    have HTT := Aside0.mk ht
    have HFF := Aside0.mk hf
    have HK2 := Aside0.mk hk2
    clear ht hf hk2 HYB HB0 HC0
    cases b
    · have HF3 := Aside0.mk (HFF.out rfl)
      clear HFF HTT
      gi_wp2
      go_ret
      exact ⟨false, rfl, HK2.out, (fun h => by cases h), fun _ => ⟨[(⟨p, v1, ⟨a0, a1, a2, ks⟩, A, c⟩ : Vis)], by
        obtain ⟨r, hr⟩ := HT.out
        rw [wkN] at hr
        exact ⟨wkL p 0 ks ++ r, by simpa [Vis.key] using hr⟩, HF3.out⟩⟩
    · have HJ2 := Aside0.mk (HTT.out rfl)
      clear HTT HFF
      gi_wp2
      gi_loopw [18] (fun v wr => ∃ (k : Nat) (vs : List Vis), k ≤ ks.length ∧ v = .int .i64 k ∧ Aside0 (J (pre ++ [(⟨p, v1, ⟨a0, a1, a2, ks⟩, A, c⟩ : Vis)] ++ vs) wr ∧ vs.map Vis.key = wkL p 0 (ks.take k) ∧ But own W wr)) (fun v _ => ks.length - (intOf v).toNat)
      case atStart => exact ⟨0, [], Nat.zero_le _, rfl, ⟨by rw [List.append_nil]; exact HJ2.out, by simp [wkL], HK2.out⟩⟩
      case round =>
        obtain ⟨k, vs, hk, rfl, HR⟩ := hrel
        by_cases hlt : k < ks.length
        · have HBW : Aside0 (G wr) := ⟨HGO.out _ _ HB.out HR.out.2.2⟩
          have HPW : Aside0 (pathAt n1 wr pv p) := ⟨HPV.out.keep HOW.out HR.out.2.2⟩
          have HWR : Aside0 (n1 ≤ wr.heap.size) := ⟨Nat.le_trans HW.out HR.out.2.2.size⟩
          obtain ⟨x, hx⟩ : ∃ x, ks[k]? = some x := ⟨_, List.getElem?_eq_getElem hlt⟩
          obtain ⟨ad, A3, c3, rfl, hcell, HA3⟩ := tree_kid HAT.out hx
          have g0 : wr.cell? (ad.add (k * 4)) = some (.int .u8 x.f0) := hcell wr HBW.out 0 (by omega)
          have g1 : wr.cell? ⟨(ad.add (k * 4)).block, (ad.add (k * 4)).off + 1, none⟩ = some (.int .i64 x.f1) := by rw [← add_field _ _ 1 (by omega)]; exact hcell wr HBW.out 1 (by omega)
          have g2 : wr.cell? ⟨(ad.add (k * 4)).block, (ad.add (k * 4)).off + 2, none⟩ = some (.string x.f2) := by rw [← add_field _ _ 2 (by omega)]; exact hcell wr HBW.out 2 (by omega)
          have g3 : wr.cell? ⟨(ad.add (k * 4)).block, (ad.add (k * 4)).off + 3, none⟩ = some (.slice A3 x.f3.length c3) := by rw [← add_field _ _ 3 (by omega)]; exact hcell wr HBW.out 3 (by omega)
          clear hcell
          have hm : x ∈ ks := List.mem_of_getElem? hx
          have HX := Aside0.mk hx
          have HM := Aside0.mk hm
          have HA3 := Aside0.mk HA3
          clear hx hm
          gi_wp2
          refine wpIn_wide.2 ?_
          have hH : Held own wr #[Value.int .u8 x.f0, .int .i64 x.f1, .string x.f2, .slice A3 x.f3.length c3] (wr.alloc (.cells #[.int .u8 x.f0, .int .i64 x.f1, .string x.f2, .slice A3 x.f3.length c3] 24)).drew := Held.start (fun q e => by have := HOW.out q e; have := HWR.out; omega) _ _
          have hcells := hH.cells
          have HH := Aside0.mk hH
          have hS : (∀ j, ((wr.alloc (.cells #[.int .u8 x.f0, .int .i64 x.f1, .string x.f2, .slice A3 x.f3.length c3] 24)).drew).cell? ⟨wr.heap.size, j, none⟩ = #[Value.int .u8 x.f0, .int .i64 x.f1, .string x.f2, .slice A3 x.f3.length c3][j]?) ∧ Held own wr #[Value.int .u8 x.f0, .int .i64 x.f1, .string x.f2, .slice A3 x.f3.length c3] (wr.alloc (.cells #[.int .u8 x.f0, .int .i64 x.f1, .string x.f2, .slice A3 x.f3.length c3] 24)).drew := ⟨hcells, hH⟩
          clear hH hcells
          obtain ⟨R6, HR6⟩ : ∃ R : Act → World → Prop, Aside0 (R = fun a W' => ∃ b t25 t27 t28, a = { tmps := #[nodeV ⟨a0, a1, a2, ks⟩ (some ad) c, pv, .func (.yield l) #[] #[], .pointer (some ⟨W.heap.size, 0, none⟩), undef, undef, u6, .int .i64 k, .pointer (some ⟨wr.heap.size, 0, none⟩), .func (.yield l) #[] #[], pv, v1, .agg #[.int .u8 a0, .int .i64 a1, .string a2, .slice (some ad) ks.length c], .bool true, .bool false, .pointer (some ⟨W.heap.size, 3, none⟩), .slice (some ad) ks.length c, .int .i64 ks.length, .int .i64 k, .bool true, .int .i64 k, .pointer (some (ad.add (k * 4))), .agg #[.int .u8 x.f0, .int .i64 x.f1, .string x.f2, .slice A3 x.f3.length c3], .agg #[.int .u8 x.f0, .int .i64 x.f1, .string x.f2, .slice A3 x.f3.length c3], pv, t25, .int .i64 k, t27, t28, .func (.yield l) #[] #[], .bool b, .bool (!b), u32], defers := [] } ∧ But own wr W' ∧
            (b = true → ∃ us : List Vis, us.map Vis.key = wkN (p ++ [(k : Int)]) x ∧ J (pre ++ [(⟨p, v1, ⟨a0, a1, a2, ks⟩, some ad, c⟩ : Vis)] ++ vs ++ us) W') ∧ (b = false → ∃ us : List Vis, (pre ++ [(⟨p, v1, ⟨a0, a1, a2, ks⟩, some ad, c⟩ : Vis)] ++ vs ++ us).map Vis.key <+: T ∧ Jx (pre ++ [(⟨p, v1, ⟨a0, a1, a2, ks⟩, some ad, c⟩ : Vis)] ++ vs ++ us) W')) := ⟨_, ⟨rfl⟩⟩
          refine Code.wp_mono (Q := cutQ R6) ?_ ?_
          · intro e a W3 hcut
            cases e <;> first | exact False.elim hcut | skip
            replace hcut : R6 a W3 := hcut
            rw [HR6.out] at hcut
            clear HR6
            obtain ⟨b, t25, t27, t28, rfl, hk3, ht, hf⟩ := hcut
            have HTT := Aside0.mk ht
            have HFF := Aside0.mk hf
            have HK3 := Aside0.mk hk3
            clear ht hf hk3 hS HH
            cases b
            · have HF3 := Aside0.mk (HFF.out rfl)
              clear HFF HTT
              gi_wp2
              go_ret
              refine ⟨false, rfl, HR.out.2.2.trans HK3.out, (fun h => by cases h), fun _ => ?_⟩
              obtain ⟨us, h1, h2⟩ := HF3.out
              exact ⟨⟨p, v1, ⟨a0, a1, a2, ks⟩, some ad, c⟩ :: vs ++ us, by simpa using h1, by simpa using h2⟩
            · have HT3 := Aside0.mk (HTT.out rfl)
              clear HFF HTT
              gi_wp2
              obtain ⟨us, h1, h2⟩ := HT3.out
              refine ⟨?_, ?measure⟩
              (repeat apply Exists.intro)
              refine ⟨?rel, rfl⟩
              case rel => exact ⟨k + 1, vs ++ us, by omega, by go_num, ⟨by simpa using h2, by rw [List.map_append, HR.out.2.1, h1, wkL_take p ks 0 k x HX.out, Nat.zero_add], HR.out.2.2.trans HK3.out⟩⟩
              case measure => simp [intOf]; omega
          have HSN : Aside0 ((pre ++ [(⟨p, v1, ⟨a0, a1, a2, ks⟩, some ad, c⟩ : Vis)] ++ vs).map Vis.key ++ wkN (p ++ [(k : Int)]) x <+: T) := ⟨by
            obtain ⟨r, hr⟩ := HT.out
            refine ⟨wkL p (0 + k + 1) (ks.drop (k + 1)) ++ r, ?_⟩
            rw [← hr, wkN, wkL_split p ks 0 k x HX.out, Nat.zero_add, List.map_append, List.map_append, HR.out.2.1]
            simp [Vis.key]⟩
          have HDX : Aside0 (p.length + 1 + dpN x ≤ 1000000) := ⟨by
            have h1 := HDP.out
            rw [dpN] at h1
            have h2 := dpL_mem HM.out
            omega⟩
          have HSX : Aside0 (SizeOf.sizeOf x ≤ n) := ⟨by have h2 := kid_lt (x := ⟨a0, a1, a2, ks⟩) (y := x) HM.out; have := HN.out; omega⟩
          have hb6 : Below wr.heap.size wr (wr.alloc (.cells #[.int .u8 x.f0, .int .i64 x.f1, .string x.f2, .slice A3 x.f3.length c3] 24)).drew := ((Below.refl _ wr).alloc (Nat.le_refl _) _).drew
          have HB6 := Aside0.mk hb6
          clear hb6
          obtain ⟨i0, hi, hz0, hz1, hz2⟩ := info_parts info3
          go_region_held3 (fun w' => (∀ j, w'.cell? ⟨wr.heap.size, j, none⟩ = #[Value.int .u8 x.f0, .int .i64 x.f1, .string x.f2, .slice A3 x.f3.length c3][j]?) ∧ Held own wr #[Value.int .u8 x.f0, .int .i64 x.f1, .string x.f2, .slice A3 x.f3.length c3] w')
            (first | assumption | exact heldAnd (by assumption) | exact heldAnd ((by assumption : _ ∧ Held own wr #[Value.int .u8 x.f0, .int .i64 x.f1, .string x.f2, .slice A3 x.f3.length c3] _).2.alloc _) | exact heldAnd (Held.allocD (by assumption : _ ∧ Held own wr #[Value.int .u8 x.f0, .int .i64 x.f1, .string x.f2, .slice A3 x.f3.length c3] _).2 _))
            (first
              | (go_at_call 122; refine (cloneI n1 pv p _ (HPW.out.keep HOW.out (by assumption : _ ∧ Held own wr #[Value.int .u8 x.f0, .int .i64 x.f1, .string x.f2, .slice A3 x.f3.length c3] _).2.keeps) (by have := HDP.out; omega)).mono ?_; rintro e W1 ⟨v5, rfl, hv0, hb1⟩; have hH5 := (by assumption : _ ∧ Held own wr #[Value.int .u8 x.f0, .int .i64 x.f1, .string x.f2, .slice A3 x.f3.length c3] _).2.below hb1; have hv1 : pathAt (wr.heap.size + 1) W1 v5 p := hv0.mono (by assumption : _ ∧ Held own wr #[Value.int .u8 x.f0, .int .i64 x.f1, .string x.f2, .slice A3 x.f3.length c3] _).2.lt; clear hv0; have hq1 : Below wr.heap.size wr W1 := (by first | exact HB6.out.trans (hb1.mono (by simp)) | exact (HB6.out.alloc (by simp) _).trans (hb1.mono (by simp; omega))))
              | (go_at_call 90; refine (callsIn_wide.1 (HIH.out x A3 c3 (p ++ [(k : Int)]) _ (pre ++ [(⟨p, v1, ⟨a0, a1, a2, ks⟩, some ad, c⟩ : Vis)] ++ vs) _ m HSX.out HA3.out (path_snoc hown (by have := HWR.out; omega)) (HGO.out _ _ HBW.out (by assumption : _ ∧ Held own wr #[Value.int .u8 x.f0, .int .i64 x.f1, .string x.f2, .slice A3 x.f3.length c3] _).2.keeps) (by have := HWR.out; have := hq2.size; omega) (HJ.out _ _ _ HR.out.1 hq2) HSN.out (by have := HDX.out; simp; omega))).mono ?_; rintro e w3 ⟨b, rfl, hk3, ht3, hf3⟩; have hH7 := (by assumption : _ ∧ Held own wr #[Value.int .u8 x.f0, .int .i64 x.f1, .string x.f2, .slice A3 x.f3.length c3] _).2.keep hk3)
              | (rw [if_pos (by rfl)]; refine wp_append_own _ (.tmp 25) (.tmp 27) 34 rfl (wr.heap.size + 1) 3 i0 (.int .i64 0) 1 8 Tryd.underlying34 hi hz0 hz1 hz2 rfl (by decide) _ p.length (p.map (Value.int .i64)) rfl (by first | exact hv1 | exact World.ownsRow.alloc hv1 _) ⟨_, 0, none⟩ 1 1 [.int .i64 k] rfl rfl (one_cell (by first | exact box_new _ _ _ 0 | exact (hb1.cell (p := ⟨_, 0, none⟩) (by simp)).trans (box_at _ _ _ _ 0 (by simp)))) (by intro u hu; simp at hu; subst hu; rfl) (by have := HDP.out; unfold maxLen; omega) (by have := HDP.out; omega) (by assumption : _ ∧ Held own wr #[Value.int .u8 x.f0, .int .i64 x.f1, .string x.f2, .slice A3 x.f3.length c3] _).2.lt ?_; intro v2 w2 hown hgrow hnil; have hH6 := (by assumption : _ ∧ Held own wr #[Value.int .u8 x.f0, .int .i64 x.f1, .string x.f2, .slice A3 x.f3.length c3] _).2.grown hgrow (fun q e => by have := (World.ownsRow.lt hv1 q e).1; omega); have hq2 : Below wr.heap.size wr w2 := (by first | exact hq1.grown hgrow hq1.size (fun q e => by have := (World.ownsRow.lt hv1 q e).1; omega) | exact (hq1.alloc hq1.size _).grown hgrow (by have := hq1.size; simp; omega) (fun q e => by have := (World.ownsRow.lt hv1 q e).1; omega))))
          all_goals (
            have HF7 := hH7.keeps
            clear hH5 hH6 hH7
            show R6 _ _
            rw [HR6.out]
            exact ⟨b, _, _, _, rfl, HF7, ht3, hf3⟩)
        · have ek : k = ks.length := by omega
          subst ek
          gi_wp2
          go_ret
          refine ⟨true, rfl, HR.out.2.2, fun _ => ⟨⟨p, v1, ⟨a0, a1, a2, ks⟩, A, c⟩ :: vs, ?_, ?_⟩, (fun h => by cases h)⟩
          · rw [List.map_cons, HR.out.2.1, List.take_length, wkN]; rfl
          · have := HR.out.1; rwa [List.append_assoc] at this
set_option maxHeartbeats 2000000 in
theorem WalkF (x : Nd) (A : Option Addr) (c : Nat) (w : World) :
    Calls Tryd.prog 36 #[nodeV x A c] w fun e w' => e = .returned (.func (.func 89) #[] #[.pointer (some ⟨w.heap.size, 0, none⟩)]) ∧ w' = w.alloc (.cells #[.int .u8 x.f0, .int .i64 x.f1, .string x.f2, .slice A x.f3.length c] 24) := by
  go_enter Tryd.func36, Tryd.ntmps36
  go_wp2
  go_ret
  exact ⟨rfl, rfl⟩
theorem enter_Walk1 (args : Array Value) (w : World) : (callFunc 89 args).run Tryd.prog w = .ok (.enter 89 args) w := by go_simp
set_option maxHeartbeats 2000000 in
set_option maxRecDepth 100000 in
theorem Walk_known (G : World → Prop) (own : Nat → Prop) (w : World) (bx : Nat) (x : Nd) (A : Option Addr) (c : Nat) (hG : G w) (hGB : ∀ W W', G W → Below W.heap.size W W' → G W') (hGO : ∀ W W', G W → But (ownP own w.heap.size) W W' → G W') (hown : ∀ k, own k → k < w.heap.size)
    (hA : TreeAt G x A c) (hbx : ∀ j, w.cell? ⟨bx, j, none⟩ = #[Value.int .u8 x.f0, .int .i64 x.f1, .string x.f2, .slice A x.f3.length c][j]?) (hlt : bx < w.heap.size) (hd : dpN x ≤ 1000000) :
    SeqKnown Tryd.prog 89 #[.pointer (some ⟨bx, 0, none⟩)] Vis.enc (Vis.Kn G w.heap.size) own (fun xs => xs.map Vis.key = wkN [] x) (fun pre => pre.map Vis.key <+: wkN [] x) w := by
  intro l J Jx W hW hW2 hJ hJx hY hj0
  have hw := walk_in l W.heap.size G (ownP own w.heap.size) (wkN [] x) J Jx hJ hJx hGB hGO (fun k e => by
    rcases e with e | e | e
    · have := hown k e; omega
    · omega
    · omega) (fun pre v W1 h1 h2 h3 m => hY pre v W1 h1 ⟨h2.1.mono hW.size, h2.2⟩ h3 m) (SizeOf.sizeOf x) x A c [] (.slice none 0 0) [] W 0 (Nat.le_refl _) hA (World.ownsRow_nil _ _ _ _) (hGB _ _ hG hW) (Nat.le_refl _) hj0 (by simp) (by simpa using hd)
  have hc : ∀ j, W.cell? ⟨bx, j, none⟩ = #[Value.int .u8 x.f0, .int .i64 x.f1, .string x.f2, .slice A x.f3.length c][j]? := fun j => (hW.cell (p := ⟨bx, j, none⟩) hlt).trans (hbx j)
  have HW := Aside0.mk (callsIn_wide.1 hw)
  clear hw hY hbx
  go_enter Tryd.func89, Tryd.ntmps89
  go_wp2_with fail
  refine HW.out.mono ?_
  rintro e w' ⟨b, rfl, hk, ht, hf⟩
  have HT := Aside0.mk ht
  have HF := Aside0.mk hf
  clear ht hf
  go_wp2
  go_end0
  refine ⟨⟨_, rfl⟩, ?_⟩
  cases b
  · obtain ⟨vs, h1, h2⟩ := HF.out rfl
    exact Or.inr ⟨vs, h1, h2⟩
  · obtain ⟨vs, h1, h2⟩ := HT.out rfl
    exact Or.inl ⟨vs, h1, h2⟩
end Go.Proofs.YtmdbbfoejmakdaaDoor.Ha

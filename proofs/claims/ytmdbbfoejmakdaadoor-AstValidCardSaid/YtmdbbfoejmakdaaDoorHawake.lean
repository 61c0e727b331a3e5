/-
  The contract of ontimelaw12.awake: the examples of the chapter hold. By this session, out of its own program (wip/gen).
-/
import Derived.Test.YtmdbbfoejmakdaaDoorHwalk
import Derived.Test.YtmdbbfoejmakdaaDoorHis
namespace Go.Proofs.YtmdbbfoejmakdaaDoor.Ha
open Go.RowKit Go.Shelf Go.Proofs.YtmdbbfoejmakdaaDoorW.PrintWords Go.Proofs.YtmdbbfoejmakdaaDoorW.PrintLast Go.Proofs.YtmdbbfoejmakdaaDoorW.PrintMore Go.Proofs.YtmdbbfoejmakdaaDoor.P
set_option linter.unusedVariables false
set_option linter.unusedSimpArgs false
open Hl
attribute [local go_sem] Oper.semAt_some

/-- Rows and boxes, laid one after the other. -/
def lays (w : World) : List (Array Value × TypeId) → World
  | [] => w
  | o :: r => lays (w.alloc (.cells o.1 o.2)) r
theorem lays_size (w : World) (os : List (Array Value × TypeId)) : (lays w os).heap.size = w.heap.size + os.length := by
  induction os generalizing w with
  | nil => rfl
  | cons o r ih => rw [lays, ih, World.size_alloc, List.length_cons]; omega
theorem lays_below (w : World) (os : List (Array Value × TypeId)) : Below w.heap.size w (lays w os) := by
  induction os generalizing w with
  | nil => exact Below.refl _ _
  | cons o r ih => exact ((Below.refl _ w).alloc (Nat.le_refl _) _).trans ((ih _).mono (by rw [World.size_alloc]; omega))
theorem lays_cell (w : World) (os : List (Array Value × TypeId)) (i : Nat) (cs : Array Value) (t : TypeId) (h : os[i]? = some (cs, t)) (j : Nat) : (lays w os).cell? ⟨w.heap.size + i, j, none⟩ = cs[j]? := by
  induction os generalizing w i with
  | nil => simp at h
  | cons o r ih =>
    cases i with
    | zero =>
      simp at h
      subst h
      exact ((lays_below (w.alloc (.cells cs t)) r).cell (p := ⟨w.heap.size, j, none⟩) (by rw [World.size_alloc]; show w.heap.size < _; omega)).trans (box_new w cs t j)
    | succ i =>
      simp at h
      have := ih (w.alloc (.cells o.1 o.2)) i h
      rw [World.size_alloc] at this
      rw [lays, show w.heap.size + (i + 1) = w.heap.size + 1 + i by omega]
      exact this
theorem lays_frozen (w : World) (os : List (Array Value × TypeId)) (i : Nat) (cs : Array Value) (t : TypeId) (h : os[i]? = some (cs, t)) (j : Nat) : (lays w os).frozen? ⟨w.heap.size + i, j, none⟩ = false := by
  induction os generalizing w i with
  | nil => simp at h
  | cons o r ih =>
    cases i with
    | zero =>
      simp at h
      subst h
      show (lays (w.alloc (.cells cs t)) r).frozen? ⟨w.heap.size, j, none⟩ = false
      rw [(lays_below (w.alloc (.cells cs t)) r).frozen (p := ⟨w.heap.size, j, none⟩) (by rw [World.size_alloc]; show w.heap.size < _; omega)]
      unfold World.frozen?
      rw [World.alloc_heap_new]
      simp
    | succ i =>
      simp at h
      have := ih (w.alloc (.cells o.1 o.2)) i h
      rw [World.size_alloc] at this
      rw [lays, show w.heap.size + (i + 1) = w.heap.size + 1 + i by omega]
      exact this
theorem treeAt_leaf (G : World → Prop) (x : Nd) (h : x.f3 = []) : TreeAt G x none 0 :=
  .mk x none 0 ⟨0, 0, none⟩ (fun _ => none) (fun _ => 0) (by rw [h]; simp) (by rw [h]; simp) (fun e => absurd h e) (fun k y hy => by rw [h] at hy; simp at hy) (fun k y hy => by rw [h] at hy; simp at hy)
/-- A row of two nodes. -/
theorem treeAt_two (G : World → Prop) (a0 a1 : Int) (a2 : ByteArray) (x y : Nd) (b : Nat) (Ax Ay : Option Addr) (cx cy : Nat) (hx : TreeAt G x Ax cx) (hy : TreeAt G y Ay cy)
    (h : ∀ W, G W → ∀ j, W.cell? ⟨b, j, none⟩ = #[Value.int .u8 x.f0, .int .i64 x.f1, .string x.f2, .slice Ax x.f3.length cx, .int .u8 y.f0, .int .i64 y.f1, .string y.f2, .slice Ay y.f3.length cy][j]?) : TreeAt G ⟨a0, a1, a2, [x, y]⟩ (some ⟨b, 0, none⟩) 2 := by
  have e0 : ∀ k, (⟨b, 0, none⟩ : Addr).add k = ⟨b, k, none⟩ := fun k => by rw [Addr.add_lit, Nat.zero_add]
  refine .mk _ _ _ ⟨b, 0, none⟩ (fun k => if k = 0 then Ax else Ay) (fun k => if k = 0 then cx else cy) (by simp) (by simp) (fun _ => rfl) (fun k z hz W hW i hi => ?_) (fun k z hz => ?_)
  · rw [e0, h W hW]
    match k, hz with
    | 0, hz =>
      simp at hz
      subst hz
      rw [Nat.zero_mul, Nat.zero_add]
      match i, hi with
      | 0, _ => rfl
      | 1, _ => rfl
      | 2, _ => rfl
      | 3, _ => rfl
    | 1, hz =>
      simp at hz
      subst hz
      match i, hi with
      | 0, _ => rfl
      | 1, _ => rfl
      | 2, _ => rfl
      | 3, _ => rfl
    | k + 2, hz => simp at hz
  · match k, hz with
    | 0, hz => simp at hz; subst hz; exact hx
    | 1, hz => simp at hz; subst hz; exact hy
    | k + 2, hz => simp at hz
theorem equalIn_funcNil {P : Program} {t : TypeId} {ps rs : Array TypeId} {va : Bool} (d : Nat) (h : P.underlying t = some (.func ps rs va)) (w : World) (f : Fn) (a b : Array Value) : (Op.equalIn (d + 1) t (.func f a b) .nilFunc).run P w = .ok false w := by
  simp [Op.equalIn, run_underlying h]
theorem funcNil {P : Program} {t : TypeId} {ps rs : Array TypeId} {va : Bool} (h : P.underlying t = some (.func ps rs va)) (w : World) (f : Fn) (a b : Array Value) : (binOp .eql t (.func f a b) .nilFunc).run P w = .ok (.bool false) w := by
  have h2 := equalIn_funcNil (P := P) 9999 h w f a b
  simp only [binOp]
  simp [Op.equal, Op.maxDepth, h2]
/-- The world is named anew; what is known of it stays. -/
theorem at_world {F : Fence} {n : Nat} {P : Program} {c : Code} {Q : Exit → Act → World → Prop} {a : Act} {W : World} (Pr : World → Prop) (hp : Pr W) (h : ∀ W', Pr W' → c.wpIn F n P Q a W') : c.wpIn F n P Q a W := h W hp
theorem keyB_eq (s : ByteArray) : keyB s = kws.any (fun y => s.data.toList == y.data.toList) := by unfold keyB; simp only [ByteArray.toList_eq]
theorem nameX : nameB ⟨#[120]⟩ = true := by unfold nameB; rw [keyB_eq]; decide
theorem nameY : nameB ⟨#[121]⟩ = true := by unfold nameB; rw [keyB_eq]; decide
theorem emp0 : (⟨#[]⟩ : ByteArray).toList = [] := by rw [ByteArray.toList_eq]
theorem okSum : okN (⟨40, 0, ⟨#[]⟩, [⟨2, 0, ⟨#[120]⟩, []⟩, ⟨6, 0, ⟨#[]⟩, [⟨2, 0, ⟨#[121]⟩, []⟩, ⟨1, 1, ⟨#[]⟩, []⟩]⟩]⟩ : Nd) := by simp [okN, okN.okL, ByteArray.size]; decide
theorem isSum4 : isN (⟨40, 0, ⟨#[]⟩, [⟨2, 0, ⟨#[120]⟩, []⟩, ⟨6, 0, ⟨#[]⟩, [⟨2, 0, ⟨#[121]⟩, []⟩, ⟨1, 1, ⟨#[]⟩, []⟩]⟩]⟩ : Nd) 4 = true := by simp [isN, isZip, formK, form0, nameX, nameY, emp0, andB]; decide
theorem isSum8 : isN (⟨40, 0, ⟨#[]⟩, [⟨2, 0, ⟨#[120]⟩, []⟩, ⟨6, 0, ⟨#[]⟩, [⟨2, 0, ⟨#[121]⟩, []⟩, ⟨1, 1, ⟨#[]⟩, []⟩]⟩]⟩ : Nd) 8 = false := by simp [isN, isZip, formK, form0, nameX, nameY, emp0, andB]; decide
theorem isSum1 : isN (⟨40, 0, ⟨#[]⟩, [⟨2, 0, ⟨#[120]⟩, []⟩, ⟨6, 0, ⟨#[]⟩, [⟨2, 0, ⟨#[121]⟩, []⟩, ⟨1, 1, ⟨#[]⟩, []⟩]⟩]⟩ : Nd) 1 = false := by simp [isN, isZip, formK, form0, nameX, nameY, emp0, andB]; decide
structure AwakeAt (w W : World) : Prop where
  below : Below w.heap.size w W
  size : W.heap.size = w.heap.size + 9
  res : Box1 W w.heap.size (.bool false)
  cnt : Box1 W (w.heap.size + 1 + 1 + 1 + 1 + 1 + 1) (.int .i64 0)
  sum : TreeAt (But (fun k => k = w.heap.size + 1 + 1 + 1 + 1 + 1 + 1) W) (⟨40, 0, ⟨#[]⟩, [⟨2, 0, ⟨#[120]⟩, []⟩, ⟨6, 0, ⟨#[]⟩, [⟨2, 0, ⟨#[121]⟩, []⟩, ⟨1, 1, ⟨#[]⟩, []⟩]⟩]⟩ : Nd) (some ⟨w.heap.size + 4, 0, none⟩) 2
  sumc : ∀ j, W.cell? ⟨w.heap.size + 1 + 1 + 1 + 1 + 1, j, none⟩ = #[.int .u8 40, .int .i64 0, .string ⟨#[]⟩, .slice (some ⟨w.heap.size + 4, 0, none⟩) 2 2][j]?
  wlk : TreeAt (But (fun k => k = w.heap.size + 1 + 1 + 1 + 1 + 1 + 1) W) (⟨40, 0, ⟨#[]⟩, [⟨2, 0, ⟨#[120]⟩, []⟩, ⟨1, 1, ⟨#[]⟩, []⟩]⟩ : Nd) (some ⟨w.heap.size + 7, 0, none⟩) 2
  wlkc : ∀ j, W.cell? ⟨w.heap.size + 8, j, none⟩ = #[.int .u8 40, .int .i64 0, .string ⟨#[]⟩, .slice (some ⟨w.heap.size + 7, 0, none⟩) 2 2][j]?
theorem awakeAt (w : World) : AwakeAt w (lays w [(#[.bool false], 4), (#[.int .u8 2, .int .i64 0, .string ⟨#[120]⟩, .slice none 0 0], 24), (#[.int .u8 1, .int .i64 1, .string ⟨#[]⟩, .slice none 0 0], 24), (#[.int .u8 2, .int .i64 0, .string ⟨#[121]⟩, .slice none 0 0, .int .u8 1, .int .i64 1, .string ⟨#[]⟩, .slice none 0 0], 24), (#[.int .u8 2, .int .i64 0, .string ⟨#[120]⟩, .slice none 0 0, .int .u8 6, .int .i64 0, .string ⟨#[]⟩, .slice (some ⟨w.heap.size + 3, 0, none⟩) 2 2], 24), (#[.int .u8 40, .int .i64 0, .string ⟨#[]⟩, .slice (some ⟨w.heap.size + 4, 0, none⟩) 2 2], 24), (#[.int .i64 0], 3), (#[.int .u8 2, .int .i64 0, .string ⟨#[120]⟩, .slice none 0 0, .int .u8 1, .int .i64 1, .string ⟨#[]⟩, .slice none 0 0], 24), (#[.int .u8 40, .int .i64 0, .string ⟨#[]⟩, .slice (some ⟨w.heap.size + 7, 0, none⟩) 2 2], 24)]) := by
  have hc := lays_cell w [(#[.bool false], 4), (#[.int .u8 2, .int .i64 0, .string ⟨#[120]⟩, .slice none 0 0], 24), (#[.int .u8 1, .int .i64 1, .string ⟨#[]⟩, .slice none 0 0], 24), (#[.int .u8 2, .int .i64 0, .string ⟨#[121]⟩, .slice none 0 0, .int .u8 1, .int .i64 1, .string ⟨#[]⟩, .slice none 0 0], 24), (#[.int .u8 2, .int .i64 0, .string ⟨#[120]⟩, .slice none 0 0, .int .u8 6, .int .i64 0, .string ⟨#[]⟩, .slice (some ⟨w.heap.size + 3, 0, none⟩) 2 2], 24), (#[.int .u8 40, .int .i64 0, .string ⟨#[]⟩, .slice (some ⟨w.heap.size + 4, 0, none⟩) 2 2], 24), (#[.int .i64 0], 3), (#[.int .u8 2, .int .i64 0, .string ⟨#[120]⟩, .slice none 0 0, .int .u8 1, .int .i64 1, .string ⟨#[]⟩, .slice none 0 0], 24), (#[.int .u8 40, .int .i64 0, .string ⟨#[]⟩, .slice (some ⟨w.heap.size + 7, 0, none⟩) 2 2], 24)]
  have hf := lays_frozen w [(#[.bool false], 4), (#[.int .u8 2, .int .i64 0, .string ⟨#[120]⟩, .slice none 0 0], 24), (#[.int .u8 1, .int .i64 1, .string ⟨#[]⟩, .slice none 0 0], 24), (#[.int .u8 2, .int .i64 0, .string ⟨#[121]⟩, .slice none 0 0, .int .u8 1, .int .i64 1, .string ⟨#[]⟩, .slice none 0 0], 24), (#[.int .u8 2, .int .i64 0, .string ⟨#[120]⟩, .slice none 0 0, .int .u8 6, .int .i64 0, .string ⟨#[]⟩, .slice (some ⟨w.heap.size + 3, 0, none⟩) 2 2], 24), (#[.int .u8 40, .int .i64 0, .string ⟨#[]⟩, .slice (some ⟨w.heap.size + 4, 0, none⟩) 2 2], 24), (#[.int .i64 0], 3), (#[.int .u8 2, .int .i64 0, .string ⟨#[120]⟩, .slice none 0 0, .int .u8 1, .int .i64 1, .string ⟨#[]⟩, .slice none 0 0], 24), (#[.int .u8 40, .int .i64 0, .string ⟨#[]⟩, .slice (some ⟨w.heap.size + 7, 0, none⟩) 2 2], 24)]
  have hs := lays_size w [(#[.bool false], 4), (#[.int .u8 2, .int .i64 0, .string ⟨#[120]⟩, .slice none 0 0], 24), (#[.int .u8 1, .int .i64 1, .string ⟨#[]⟩, .slice none 0 0], 24), (#[.int .u8 2, .int .i64 0, .string ⟨#[121]⟩, .slice none 0 0, .int .u8 1, .int .i64 1, .string ⟨#[]⟩, .slice none 0 0], 24), (#[.int .u8 2, .int .i64 0, .string ⟨#[120]⟩, .slice none 0 0, .int .u8 6, .int .i64 0, .string ⟨#[]⟩, .slice (some ⟨w.heap.size + 3, 0, none⟩) 2 2], 24), (#[.int .u8 40, .int .i64 0, .string ⟨#[]⟩, .slice (some ⟨w.heap.size + 4, 0, none⟩) 2 2], 24), (#[.int .i64 0], 3), (#[.int .u8 2, .int .i64 0, .string ⟨#[120]⟩, .slice none 0 0, .int .u8 1, .int .i64 1, .string ⟨#[]⟩, .slice none 0 0], 24), (#[.int .u8 40, .int .i64 0, .string ⟨#[]⟩, .slice (some ⟨w.heap.size + 7, 0, none⟩) 2 2], 24)]
  have row : ∀ (i : Nat) (cs : Array Value) (t : TypeId), ([(#[.bool false], 4), (#[.int .u8 2, .int .i64 0, .string ⟨#[120]⟩, .slice none 0 0], 24), (#[.int .u8 1, .int .i64 1, .string ⟨#[]⟩, .slice none 0 0], 24), (#[.int .u8 2, .int .i64 0, .string ⟨#[121]⟩, .slice none 0 0, .int .u8 1, .int .i64 1, .string ⟨#[]⟩, .slice none 0 0], 24), (#[.int .u8 2, .int .i64 0, .string ⟨#[120]⟩, .slice none 0 0, .int .u8 6, .int .i64 0, .string ⟨#[]⟩, .slice (some ⟨w.heap.size + 3, 0, none⟩) 2 2], 24), (#[.int .u8 40, .int .i64 0, .string ⟨#[]⟩, .slice (some ⟨w.heap.size + 4, 0, none⟩) 2 2], 24), (#[.int .i64 0], 3), (#[.int .u8 2, .int .i64 0, .string ⟨#[120]⟩, .slice none 0 0, .int .u8 1, .int .i64 1, .string ⟨#[]⟩, .slice none 0 0], 24), (#[.int .u8 40, .int .i64 0, .string ⟨#[]⟩, .slice (some ⟨w.heap.size + 7, 0, none⟩) 2 2], 24)])[i]? = some (cs, t) → i ≠ 6 → ∀ W, But (fun k => k = w.heap.size + 1 + 1 + 1 + 1 + 1 + 1) (lays w [(#[.bool false], 4), (#[.int .u8 2, .int .i64 0, .string ⟨#[120]⟩, .slice none 0 0], 24), (#[.int .u8 1, .int .i64 1, .string ⟨#[]⟩, .slice none 0 0], 24), (#[.int .u8 2, .int .i64 0, .string ⟨#[121]⟩, .slice none 0 0, .int .u8 1, .int .i64 1, .string ⟨#[]⟩, .slice none 0 0], 24), (#[.int .u8 2, .int .i64 0, .string ⟨#[120]⟩, .slice none 0 0, .int .u8 6, .int .i64 0, .string ⟨#[]⟩, .slice (some ⟨w.heap.size + 3, 0, none⟩) 2 2], 24), (#[.int .u8 40, .int .i64 0, .string ⟨#[]⟩, .slice (some ⟨w.heap.size + 4, 0, none⟩) 2 2], 24), (#[.int .i64 0], 3), (#[.int .u8 2, .int .i64 0, .string ⟨#[120]⟩, .slice none 0 0, .int .u8 1, .int .i64 1, .string ⟨#[]⟩, .slice none 0 0], 24), (#[.int .u8 40, .int .i64 0, .string ⟨#[]⟩, .slice (some ⟨w.heap.size + 7, 0, none⟩) 2 2], 24)]) W → ∀ j, W.cell? ⟨w.heap.size + i, j, none⟩ = cs[j]? := fun i cs t h hi W hW j =>
    (hW.cell (by rw [hs]; have := (List.getElem?_eq_some_iff.1 h).1; omega) (by show ¬ w.heap.size + i = w.heap.size + 6; omega)).trans (hc i cs t h j)
  refine ⟨lays_below _ _, lays_size _ _, ⟨(hc 0 _ _ rfl 0).trans rfl, hf 0 _ _ rfl 0⟩, ⟨(hc 6 _ _ rfl 0).trans rfl, hf 6 _ _ rfl 0⟩, ?_, fun j => hc 5 _ _ rfl j, ?_, fun j => hc 8 _ _ rfl j⟩
  · exact treeAt_two _ _ _ _ _ _ _ none (some ⟨w.heap.size + 3, 0, none⟩) 0 2 (treeAt_leaf _ _ rfl) (treeAt_two _ _ _ _ _ _ _ none none 0 0 (treeAt_leaf _ _ rfl) (treeAt_leaf _ _ rfl) (fun W hW j => row 3 _ _ rfl (by decide) W hW j)) (fun W hW j => row 4 _ _ rfl (by decide) W hW j)
  · exact treeAt_two _ _ _ _ _ _ _ none none 0 0 (treeAt_leaf _ _ rfl) (treeAt_leaf _ _ rfl) (fun W hW j => row 7 _ _ rfl (by decide) W hW j)
theorem But.owned {own : Nat → Prop} {W0 W W' : World} (h : But own W0 W) (h' : But (ownP own W0.heap.size) W W') : But own W0 W' :=
  ⟨h'.os.trans h.os, h'.tape.trans h.tape, h'.output.trans h.output, Nat.le_trans h.size h'.size, fun k h1 h2 => (h'.block k (Nat.lt_of_lt_of_le h1 h.size) (fun e => by
    rcases e with e | e | e
    · exact h2 e
    · omega
    · omega)).trans (h.block k h1 h2)⟩
theorem KeepsOthers.drewN (W : World) (n : Nat) : KeepsOthers W (W.drewN n) := ⟨Nat.le_refl _, fun _ _ h _ => h⟩
theorem But.drewN {own : Nat → Prop} {W0 W : World} (h : But own W0 W) (n : Nat) : But own W0 (W.drewN n) := ⟨h.os, h.tape, h.output, h.size, h.block⟩
theorem Kn_own (G : World → Prop) (b B : Nat) (x : Vis) : OwnFrom B (fun (_ : Unit) W => Vis.Kn G b x W) := fun s W W' row hs hg hr => ⟨pathAt_own (β := Unit) B b (fun _ => x.pv) (fun _ => x.path) s W W' row hs.1 hg hr, hs.2⟩
theorem prefix_next {α β : Type} {f : α → β} {pre : List α} {x : α} {L : List β} (h : (pre ++ [x]).map f <+: L) : L[pre.length]? = some (f x) := by
  obtain ⟨r, rfl⟩ := h
  simp
set_option maxHeartbeats 4000000 in
set_option maxRecDepth 100000 in
theorem awake (w : World) (hT : TabOk w) : Calls Tryd.prog 21 #[] w fun e w' => e = .returned (.bool true) ∧ Below w.heap.size w w' := by
  have q32 : ∀ (w : World) (f : Fn) (a b : Array Value), (binOp .eql 32 (.func f a b) .nilFunc).run Tryd.prog w = .ok (.bool false) w := funcNil (ps := #[93]) (rs := #[]) (va := false) (by kernel_rfl)
  refine (callsIn_wide (n := 5)).1 ?_
  refine callsIn_of_wp_marks Tryd.func21 rfl trivial ?_ rfl
  simp only [Tryd.ntmps21, List.size_toArray, List.length_cons, List.length_nil, Nat.reduceAdd, Nat.reduceSub, Array.replicate_succ, Array.replicate_zero, List.push_toArray, List.append_toArray, List.nil_append, List.cons_append]
  gi_wp2_with (first
    | ((try refine ⟨trivial, ?_⟩); (try refine ⟨fun _ => by omega, ?_⟩); gi_at_call 36; refine (callsIn_wide.2 (WalkF ⟨40, 0, ⟨#[]⟩, [⟨2, 0, ⟨#[120]⟩, []⟩, ⟨1, 1, ⟨#[]⟩, []⟩]⟩ _ 2 _)).mono ?_; rintro e w1 ⟨rfl, rfl⟩)
    | fail)
  refine at_world (AwakeAt w) (awakeAt w) (fun Wl hW => ?_)
  have hsz := hW.size
  refine range_known (n := 5) (by omega) (gf := 89) (lb := #[.pointer (some ⟨w.heap.size + 8, 0, none⟩)]) rfl enter_Walk1
    (Walk_known (But (fun k => k = w.heap.size + 1 + 1 + 1 + 1 + 1 + 1) Wl) (fun k => k = w.heap.size + 1 + 1 + 1 + 1 + 1 + 1) Wl (w.heap.size + 8) (⟨40, 0, ⟨#[]⟩, [⟨2, 0, ⟨#[120]⟩, []⟩, ⟨1, 1, ⟨#[]⟩, []⟩]⟩ : Nd) _ 2 (But.refl _ _) (fun _ _ h h' => h.below h') (fun _ _ h h' => h.owned h') (fun k e => by omega) hW.wlk hW.wlkc (by omega) (by decide)) (fun _ => rfl) (fun x => Kn_own _ _ _ x)
    (fun pre W => But (fun k => k = w.heap.size + 1 + 1 + 1 + 1 + 1 + 1) Wl W ∧ Box1 W (w.heap.size + 1 + 1 + 1 + 1 + 1 + 1) (.int .i64 pre.length)) (fun _ _ _ => False)
    ((But.own _ _).and (Box1.own _ _ (fun pre : List Vis => .int .i64 pre.length))) ((But.stays _ _).and (Box1.stays _ (fun pre : List Vis => .int .i64 pre.length))) (fun _ _ _ _ _ hs _ _ => hs) (fun _ _ _ _ hs _ => hs)
    ⟨But.refl _ _, hW.cnt⟩ (fun x => { tmps := #[.pointer (some ⟨w.heap.size, 0, none⟩), .pointer (some ⟨w.heap.size + 1, 0, none⟩), .pointer (some ⟨w.heap.size + 1 + 1, 0, none⟩), .pointer (some ⟨w.heap.size + 1 + 1 + 1 + 1 + 1, 0, none⟩), .pointer (some ⟨w.heap.size + 1 + 1 + 1 + 1 + 1 + 1, 0, none⟩), .func (.func 89) #[] #[.pointer (some ⟨w.heap.size + 1 + 1 + 1 + 1 + 1 + 1 + 1 + 1, 0, none⟩)], x.pv, .agg #[.int .u8 2, .int .i64 0, .string ⟨#[120]⟩, .slice none 0 0], .agg #[.int .u8 1, .int .i64 1, .string ⟨#[]⟩, .slice none 0 0], .agg #[.int .u8 2, .int .i64 0, .string ⟨#[120]⟩, .slice none 0 0], .agg #[.int .u8 2, .int .i64 0, .string ⟨#[121]⟩, .slice none 0 0], .agg #[.int .u8 1, .int .i64 1, .string ⟨#[]⟩, .slice none 0 0], .slice (some ⟨w.heap.size + 1 + 1 + 1, 0, none⟩) 2 2, .agg #[.int .u8 6, .int .i64 0, .string ⟨#[]⟩, .slice (some ⟨w.heap.size + 1 + 1 + 1, 0, none⟩) 2 2], .slice (some ⟨w.heap.size + 1 + 1 + 1 + 1, 0, none⟩) 2 2, .agg #[.int .u8 40, .int .i64 0, .string ⟨#[]⟩, .slice (some ⟨w.heap.size + 1 + 1 + 1 + 1, 0, none⟩) 2 2], .agg #[.int .u8 2, .int .i64 0, .string ⟨#[120]⟩, .slice none 0 0], .agg #[.int .u8 1, .int .i64 1, .string ⟨#[]⟩, .slice none 0 0], .slice (some ⟨w.heap.size + 1 + 1 + 1 + 1 + 1 + 1 + 1, 0, none⟩) 2 2, .agg #[.int .u8 40, .int .i64 0, .string ⟨#[]⟩, .slice (some ⟨w.heap.size + 1 + 1 + 1 + 1 + 1 + 1 + 1, 0, none⟩) 2 2], .func (.func 89) #[] #[.pointer (some ⟨w.heap.size + 1 + 1 + 1 + 1 + 1 + 1 + 1 + 1, 0, none⟩)], .func (.func 89) #[] #[.pointer (some ⟨w.heap.size + 1 + 1 + 1 + 1 + 1 + 1 + 1 + 1, 0, none⟩)], .bool false, .func (.func 89) #[] #[.pointer (some ⟨w.heap.size + 1 + 1 + 1 + 1 + 1 + 1 + 1 + 1, 0, none⟩)], x.pv, nodeV x.node x.nA x.nc, undef, undef, undef, undef, undef, undef, undef, undef, undef, undef, undef, undef, undef, undef, undef, undef, undef, undef, undef, undef, undef, undef, undef, undef, undef, undef, undef, undef, undef, undef, undef, undef, undef, undef, undef, undef, undef, undef, undef, undef, undef, undef, undef, undef, undef, undef, undef, undef, undef, undef, undef, undef, undef, undef, undef, undef, undef, undef, undef, undef, undef], defers := [] }) ?assign ?body ?done ?stop
  case assign =>
    intro l x W K hK
    simp only [Vis.enc]
    gi_wp2
    exact hK
  case body =>
    rintro l pre x W ⟨hB, hc, hfz⟩ hk hsp hsz2
    have hnx := prefix_next hsp
    have hp := hk.1
    have HK := Aside0.mk hk
    have HS := Aside0.mk hsp
    have HB := Aside0.mk hB
    clear hk hsp hB
    obtain ⟨path, pv, node, nA, nc⟩ := x
    dsimp only at *
    match hn : pre.length, hnx with
    | 0, hnx =>
      rw [hn] at hc
      have h1 := (congrArg Prod.fst (Option.some.inj hnx)).symm
      simp only [Vis.key] at h1
      have HBX : Aside0 (Box1 W (w.heap.size + 1 + 1 + 1 + 1 + 1 + 1) (.int .i64 0)) := ⟨⟨hc, hfz⟩⟩
      replace hc : W.cell? ⟨w.heap.size + 1 + 1 + 1 + 1 + 1 + 1, 0, none⟩ = some (.int .i64 0) := hc
      have HEX := Aside0.mk hnx
      clear hnx
      subst h1
      rcases Joins.ownsRow_forms hp with ⟨rfl, _⟩ | ⟨g, cap, rfl⟩
      all_goals clear hp
      all_goals (
        clear HEX
        gi_wp2
        refine round_quiet_lit rfl (by kernel_rfl) (by kernel_rfl) ?_
        repeat (gi_big_quiet_step (fail))
        refine wpQuietIn_nil ?_
        intro _ hw'
        obtain ⟨nq, hw''⟩ := hw'
        subst hw''
        gi_wp2
        exact ⟨(KeepsOthers.drewN W nq).trans (KeepsOthers.setCell _ _ _), ((But.refl _ W).drewN nq).setCell _ _ rfl, (HB.out.drewN nq).setCell _ _ rfl, by
          have h := (show Box1 (W.drewN nq) _ _ from HBX.out).set (.int .i64 1)
          rw [List.length_append, hn]
          exact h⟩)
    | 1, hnx =>
      rw [hn] at hc
      have h1 := (congrArg Prod.fst (Option.some.inj hnx)).symm
      simp only [Vis.key] at h1
      have HBX : Aside0 (Box1 W (w.heap.size + 1 + 1 + 1 + 1 + 1 + 1) (.int .i64 1)) := ⟨⟨hc, hfz⟩⟩
      replace hc : W.cell? ⟨w.heap.size + 1 + 1 + 1 + 1 + 1 + 1, 0, none⟩ = some (.int .i64 1) := hc
      have HEX := Aside0.mk hnx
      clear hnx
      subst h1
      obtain ⟨g, cap, rfl⟩ := Joins.ownsRow_form hp (by decide)
      have hcell : W.cell? ⟨g, 0, none⟩ = some (.int .i64 0) := (World.ownsRow.cellAt hp 0 (by decide)).trans rfl
      clear hp
      clear HEX
      gi_wp2
      refine round_quiet_lit rfl (by kernel_rfl) (by kernel_rfl) ?_
      repeat (gi_big_quiet_step (fail))
      refine wpQuietIn_nil ?_
      intro _ hw'
      obtain ⟨nq, hw''⟩ := hw'
      subst hw''
      gi_wp2
      exact ⟨(KeepsOthers.drewN W nq).trans (KeepsOthers.setCell _ _ _), ((But.refl _ W).drewN nq).setCell _ _ rfl, (HB.out.drewN nq).setCell _ _ rfl, by
        have h := (show Box1 (W.drewN nq) _ _ from HBX.out).set (.int .i64 2)
        rw [List.length_append, hn]
        exact h⟩
    | 2, hnx =>
      rw [hn] at hc
      have h1 := (congrArg Prod.fst (Option.some.inj hnx)).symm
      simp only [Vis.key] at h1
      have HBX : Aside0 (Box1 W (w.heap.size + 1 + 1 + 1 + 1 + 1 + 1) (.int .i64 2)) := ⟨⟨hc, hfz⟩⟩
      replace hc : W.cell? ⟨w.heap.size + 1 + 1 + 1 + 1 + 1 + 1, 0, none⟩ = some (.int .i64 2) := hc
      have HEX := Aside0.mk hnx
      clear hnx
      subst h1
      obtain ⟨g, cap, rfl⟩ := Joins.ownsRow_form hp (by decide)
      have hcell : W.cell? ⟨g, 0, none⟩ = some (.int .i64 1) := (World.ownsRow.cellAt hp 0 (by decide)).trans rfl
      clear hp
      clear HEX
      gi_wp2
      refine round_quiet_lit rfl (by kernel_rfl) (by kernel_rfl) ?_
      repeat (gi_big_quiet_step (fail))
      refine wpQuietIn_nil ?_
      intro _ hw'
      obtain ⟨nq, hw''⟩ := hw'
      subst hw''
      gi_wp2
      exact ⟨(KeepsOthers.drewN W nq).trans (KeepsOthers.setCell _ _ _), ((But.refl _ W).drewN nq).setCell _ _ rfl, (HB.out.drewN nq).setCell _ _ rfl, by
        have h := (show Box1 (W.drewN nq) _ _ from HBX.out).set (.int .i64 3)
        rw [List.length_append, hn]
        exact h⟩
    | n + 3, hnx => simp [wkN, wkL] at hnx
  case done =>
    rintro D xs W hD hS ⟨hB, hc, hfz⟩ hK
    have hl : xs.length = 3 := by have := congrArg List.length hS; simpa [wkN, wkL] using this
    rw [hl] at hc
    replace hc : W.cell? ⟨w.heap.size + 1 + 1 + 1 + 1 + 1 + 1, 0, none⟩ = some (.int .i64 3) := hc
    have hlt : D < W.heap.size := (Array.getElem?_eq_some_iff.1 hK).1
    have HT : Aside0 (∀ W', But (fun k => k = w.heap.size + 1 + 1 + 1 + 1 + 1 + 1) Wl W' → TabOk W') := ⟨fun W' h => hT.below (hW.below.trans (h.under (fun k hk e => by omega) (by omega)))⟩
    have HR : Aside0 (∀ W', But (fun k => k = w.heap.size + 1 + 1 + 1 + 1 + 1 + 1) Wl W' → W'.cell? ⟨w.heap.size, 0, none⟩ = some (.bool false) ∧ W'.frozen? ⟨w.heap.size, 0, none⟩ = false) := ⟨fun W' h => ⟨(h.cell (by omega) (by omega)).trans hW.res.1, (h.frozen (by omega) (by omega)).trans hW.res.2⟩⟩
    have HS : Aside0 (∀ W', But (fun k => k = w.heap.size + 1 + 1 + 1 + 1 + 1 + 1) Wl W' → ∀ j, W'.cell? ⟨w.heap.size + 1 + 1 + 1 + 1 + 1, j, none⟩ = #[.int .u8 40, .int .i64 0, .string ⟨#[]⟩, .slice (some ⟨w.heap.size + 4, 0, none⟩) 2 2][j]?) := ⟨fun W' h j => (h.cell (by omega) (by omega)).trans (hW.sumc j)⟩
    have HU : Aside0 (∀ W', But (fun k => k = w.heap.size + 1 + 1 + 1 + 1 + 1 + 1) Wl W' → Below w.heap.size w W') := ⟨fun W' h => hW.below.trans (h.under (fun k hk e => by omega) (by omega))⟩
    have HC0 : Aside0 (∀ W', But (fun k => k = w.heap.size + 1 + 1 + 1 + 1 + 1 + 1) Wl W' → Calls Tryd.prog 29 #[.agg #[.int .u8 40, .int .i64 0, .string ⟨#[]⟩, .slice (some ⟨w.heap.size + 4, 0, none⟩) 2 2]] W' fun e W'' => e = .returned (.int .i64 5) ∧ Below W'.heap.size W' W'') := ⟨fun W' h => by
      have := size_n _ (⟨40, 0, ⟨#[]⟩, [⟨2, 0, ⟨#[120]⟩, []⟩, ⟨6, 0, ⟨#[]⟩, [⟨2, 0, ⟨#[121]⟩, []⟩, ⟨1, 1, ⟨#[]⟩, []⟩]⟩]⟩ : Nd) _ 2 W' (Nat.le_refl _) (by decide) (hW.sum.at h).1 (hW.sum.at h).2
      skip
      exact this⟩
    have HC1 : Aside0 (∀ W', But (fun k => k = w.heap.size + 1 + 1 + 1 + 1 + 1 + 1) Wl W' → Calls Tryd.prog 31 #[.agg #[.int .u8 40, .int .i64 0, .string ⟨#[]⟩, .slice (some ⟨w.heap.size + 4, 0, none⟩) 2 2]] W' fun e W'' => e = .returned (.int .i64 3) ∧ Below W'.heap.size W' W'') := ⟨fun W' h => by
      have := depth_n _ (⟨40, 0, ⟨#[]⟩, [⟨2, 0, ⟨#[120]⟩, []⟩, ⟨6, 0, ⟨#[]⟩, [⟨2, 0, ⟨#[121]⟩, []⟩, ⟨1, 1, ⟨#[]⟩, []⟩]⟩]⟩ : Nd) _ 2 W' (Nat.le_refl _) (by decide) (hW.sum.at h).1 (hW.sum.at h).2
      skip
      exact this⟩
    have HC2 : Aside0 (∀ W', But (fun k => k = w.heap.size + 1 + 1 + 1 + 1 + 1 + 1) Wl W' → Calls Tryd.prog 33 #[.agg #[.int .u8 40, .int .i64 0, .string ⟨#[]⟩, .slice (some ⟨w.heap.size + 4, 0, none⟩) 2 2]] W' fun e W'' => e = .returned (.int .i64 0) ∧ Below W'.heap.size W' W'') := ⟨fun W' h => by
      have := nest_n _ (⟨40, 0, ⟨#[]⟩, [⟨2, 0, ⟨#[120]⟩, []⟩, ⟨6, 0, ⟨#[]⟩, [⟨2, 0, ⟨#[121]⟩, []⟩, ⟨1, 1, ⟨#[]⟩, []⟩]⟩]⟩ : Nd) _ 2 W' (Nat.le_refl _) (by decide) (hW.sum.at h).1 (hW.sum.at h).2
      skip
      exact this⟩
    have HC3 : Aside0 (∀ W', But (fun k => k = w.heap.size + 1 + 1 + 1 + 1 + 1 + 1) Wl W' → Calls Tryd.prog 25 #[.agg #[.int .u8 40, .int .i64 0, .string ⟨#[]⟩, .slice (some ⟨w.heap.size + 4, 0, none⟩) 2 2]] W' fun e W'' => e = .returned (.bool true) ∧ Below W'.heap.size W' W'') := ⟨fun W' h => by
      have := isStmt (⟨40, 0, ⟨#[]⟩, [⟨2, 0, ⟨#[120]⟩, []⟩, ⟨6, 0, ⟨#[]⟩, [⟨2, 0, ⟨#[121]⟩, []⟩, ⟨1, 1, ⟨#[]⟩, []⟩]⟩]⟩ : Nd) _ 2 W' okSum (HT.out W' h) (hW.sum.at h)
      rw [isSum4] at this
      exact this⟩
    have HC4 : Aside0 (∀ W', But (fun k => k = w.heap.size + 1 + 1 + 1 + 1 + 1 + 1) Wl W' → Calls Tryd.prog 27 #[.agg #[.int .u8 40, .int .i64 0, .string ⟨#[]⟩, .slice (some ⟨w.heap.size + 4, 0, none⟩) 2 2]] W' fun e W'' => e = .returned (.bool false) ∧ Below W'.heap.size W' W'') := ⟨fun W' h => by
      have := isBlock (⟨40, 0, ⟨#[]⟩, [⟨2, 0, ⟨#[120]⟩, []⟩, ⟨6, 0, ⟨#[]⟩, [⟨2, 0, ⟨#[121]⟩, []⟩, ⟨1, 1, ⟨#[]⟩, []⟩]⟩]⟩ : Nd) _ 2 W' okSum (HT.out W' h) (hW.sum.at h)
      rw [isSum8] at this
      exact this⟩
    have HC5 : Aside0 (∀ W', But (fun k => k = w.heap.size + 1 + 1 + 1 + 1 + 1 + 1) Wl W' → Calls Tryd.prog 23 #[.agg #[.int .u8 40, .int .i64 0, .string ⟨#[]⟩, .slice (some ⟨w.heap.size + 4, 0, none⟩) 2 2]] W' fun e W'' => e = .returned (.bool false) ∧ Below W'.heap.size W' W'') := ⟨fun W' h => by
      have := isExpr (⟨40, 0, ⟨#[]⟩, [⟨2, 0, ⟨#[120]⟩, []⟩, ⟨6, 0, ⟨#[]⟩, [⟨2, 0, ⟨#[121]⟩, []⟩, ⟨1, 1, ⟨#[]⟩, []⟩]⟩]⟩ : Nd) _ 2 W' okSum (HT.out W' h) (hW.sum.at h)
      rw [isSum1] at this
      exact this⟩
    have HD0 := Aside0.mk hK
    have HL0 := Aside0.mk hlt
    have HB0 := Aside0.mk hB
    have hs0 := HS.out W hB
    clear hS hB hK hlt
    gi_wp2_with fail
    refine ⟨trivial, ?_⟩
    refine (callsIn_wide.2 (HC0.out W HB0.out)).mono ?_
    rintro e W1 ⟨rfl, hb1⟩
    have HB1 := Aside0.mk (HB0.out.below hb1)
    have HD1 : Aside0 (W1.heap[D]? = some (.deferred (some []))) := ⟨(hb1.block D HL0.out).trans HD0.out⟩
    have HL1 : Aside0 (D < W1.heap.size) := ⟨Nat.lt_of_lt_of_le HL0.out hb1.size⟩
    have hs1 := HS.out W1 HB1.out
    clear hb1
    gi_wp2_with fail
    refine ⟨trivial, ?_⟩
    refine (callsIn_wide.2 (HC1.out W1 HB1.out)).mono ?_
    rintro e W2 ⟨rfl, hb2⟩
    have HB2 := Aside0.mk (HB1.out.below hb2)
    have HD2 : Aside0 (W2.heap[D]? = some (.deferred (some []))) := ⟨(hb2.block D HL1.out).trans HD1.out⟩
    have HL2 : Aside0 (D < W2.heap.size) := ⟨Nat.lt_of_lt_of_le HL1.out hb2.size⟩
    have hs2 := HS.out W2 HB2.out
    clear hb2
    gi_wp2_with fail
    refine ⟨trivial, ?_⟩
    refine (callsIn_wide.2 (HC2.out W2 HB2.out)).mono ?_
    rintro e W3 ⟨rfl, hb3⟩
    have HB3 := Aside0.mk (HB2.out.below hb3)
    have HD3 : Aside0 (W3.heap[D]? = some (.deferred (some []))) := ⟨(hb3.block D HL2.out).trans HD2.out⟩
    have HL3 : Aside0 (D < W3.heap.size) := ⟨Nat.lt_of_lt_of_le HL2.out hb3.size⟩
    have hs3 := HS.out W3 HB3.out
    clear hb3
    gi_wp2_with fail
    refine ⟨trivial, ?_⟩
    refine (callsIn_wide.2 (HC3.out W3 HB3.out)).mono ?_
    rintro e W4 ⟨rfl, hb4⟩
    have HB4 := Aside0.mk (HB3.out.below hb4)
    have HD4 : Aside0 (W4.heap[D]? = some (.deferred (some []))) := ⟨(hb4.block D HL3.out).trans HD3.out⟩
    have HL4 : Aside0 (D < W4.heap.size) := ⟨Nat.lt_of_lt_of_le HL3.out hb4.size⟩
    have hs4 := HS.out W4 HB4.out
    clear hb4
    gi_wp2_with fail
    refine ⟨trivial, ?_⟩
    refine (callsIn_wide.2 (HC4.out W4 HB4.out)).mono ?_
    rintro e W5 ⟨rfl, hb5⟩
    have HB5 := Aside0.mk (HB4.out.below hb5)
    have HD5 : Aside0 (W5.heap[D]? = some (.deferred (some []))) := ⟨(hb5.block D HL4.out).trans HD4.out⟩
    have HL5 : Aside0 (D < W5.heap.size) := ⟨Nat.lt_of_lt_of_le HL4.out hb5.size⟩
    have hs5 := HS.out W5 HB5.out
    clear hb5
    gi_wp2_with fail
    refine ⟨trivial, ?_⟩
    refine (callsIn_wide.2 (HC5.out W5 HB5.out)).mono ?_
    rintro e W6 ⟨rfl, hb6⟩
    have HB6 := Aside0.mk (HB5.out.below hb6)
    have HD6 : Aside0 (W6.heap[D]? = some (.deferred (some []))) := ⟨(hb6.block D HL5.out).trans HD5.out⟩
    have HL6 : Aside0 (D < W6.heap.size) := ⟨Nat.lt_of_lt_of_le HL5.out hb6.size⟩
    have hs6 := HS.out W6 HB6.out
    clear hb6
    obtain ⟨hr1, hr2⟩ := HR.out W6 HB6.out
    gi_wp2
    have hK' : (W6.setCell ⟨w.heap.size, 0, none⟩ (.bool true)).heap[D]? = some (.deferred (some [])) := (KeepsOthers.setCell W6 ⟨w.heap.size, 0, none⟩ (.bool true)).same D _ HD6.out rfl
    refine ⟨by simp, .inl ⟨_, _, rfl, run_takeDeferred hK', ?_⟩⟩
    have hc5 := cell_kept (World.cell?_setCell_same' W6 ⟨w.heap.size, 0, none⟩ (.bool true) (by rw [hr1]; rfl)) (grownBy_putObj' _ D (.deferred none)) (fun r e => by cases e; exact ⟨_, hK', rfl⟩)
    refine ⟨.bool true, ?_, rfl, ((HU.out W6 HB6.out).setCell (p := ⟨w.heap.size, 0, none⟩) (Nat.le_refl _) (.bool true)).trans ?_⟩
    · simp [results, Tryd.f21, go_sem, hc5]
    · exact ⟨rfl, rfl, rfl, by simp, fun k hk => World.putObj_heap_other (by omega)⟩
  case stop =>
    rintro D c pre W _ _ h _
    exact h.elim
end Go.Proofs.YtmdbbfoejmakdaaDoor.Ha

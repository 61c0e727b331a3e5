/-
  The contract of ast.forms: the map holds each kind's form. By this session, out of its own program (wip/gen).
-/
import Derived.Test.YtmdbbfoejmakdaaDoorHfun
import Derived.Maps.OwnSet
namespace Go.Proofs.YtmdbbfoejmakdaaDoor.Ha
open Go.RowKit Go.Proofs.YtmdbbfoejmakdaaDoorW.PrintWords Go.Proofs.YtmdbbfoejmakdaaDoorW.PrintLast Go.Proofs.YtmdbbfoejmakdaaDoorW.PrintMore Go.Proofs.YtmdbbfoejmakdaaDoor.P Go.Maps
set_option linter.unusedVariables false
set_option linter.unusedSimpArgs false

structure Form where
  is : Int
  name : Bool
  lo : Int
  hi : Int
  kids : List Int
def Rv : Value → Option (DataW Value × List MemPlace) := fun v => some (.held v, [])
theorem law8 : Keyed Tryd.prog 5 := int_keyed Tryd.underlying5
def KidsAt (w : World) (B : Nat) (s : Value) (kids : List Int) : Prop :=
  (kids = [] ∧ s = .slice none 0 0) ∨ ∃ b, b ≠ B ∧ b < w.heap.size ∧ s = .slice (some ⟨b, 0, none⟩) kids.length kids.length ∧ ∀ j, w.cell? ⟨b, j, none⟩ = ((kids.map (Value.int .u8)).toArray)[j]?
def formV (f : Form) (s : Value) : Value := .agg #[.int .u8 f.is, .bool f.name, .int .i64 f.lo, .int .i64 f.hi, s]
def MapAt (w : World) (B n : Nat) (F : Int → Option Form) : Prop :=
  ∃ D : DataW Value, w.ownsMap Tryd.prog 5 Rv B n D ∧ ∀ c : Int, (F c = none → has D (.int .u8 c) = false) ∧
    ∀ f, F c = some f → has D (.int .u8 c) = true ∧ ∃ s, (∀ z, D.atKey (.int .u8 c) z = .held (formV f s)) ∧ KidsAt w B s f.kids
theorem KidsAt.grown {w w' : World} {B : Nat} {s : Value} {kids : List Int} (h : KidsAt w B s kids) (hg : w.grownBy w' (some B)) : KidsAt w' B s kids := by
  rcases h with h | ⟨b, hb, hlt, hs, hc⟩
  · exact Or.inl h
  · refine Or.inr ⟨b, hb, Nat.lt_of_lt_of_le hlt hg.size, hs, fun j => ?_⟩
    rw [← hc j]
    unfold World.cell?
    rw [hg.block b hlt (by simpa using hb)]
theorem MapAt.step {w w' : World} {B n : Nat} {F : Int → Option Form} {c : Int} {f : Form} {s : Value} {D : DataW Value} (hwf : (Lit.int .u8 c).wf = true)
    (hD : ∀ c : Int, (F c = none → has D (.int .u8 c) = false) ∧ ∀ f, F c = some f → has D (.int .u8 c) = true ∧ ∃ s, (∀ z, D.atKey (.int .u8 c) z = .held (formV f s)) ∧ KidsAt w B s f.kids)
    (hmap : IsMap D) (hs : KidsAt w B s f.kids) (h' : w'.ownsMap Tryd.prog 5 Rv B (n + 1) (D.put (.int .u8 c) (.held (formV f s)))) (hg : w.grownBy w' (some B)) :
    MapAt w' B (n + 1) (fun y => if y = c then some f else F y) := by
  refine ⟨_, h', fun y => ?_⟩
  by_cases hy : y = c
  · subst hy
    simp only [if_pos rfl]
    refine ⟨fun h => absurd h (by simp), fun f' hf' => ?_⟩
    obtain rfl : f = f' := Option.some.inj hf'
    exact ⟨has_put_same hmap (show WideAt.IsKeyLit (.int .u8 y) from trivial) _, s, fun z => atKey_put_same hmap (show WideAt.IsKeyLit (.int .u8 y) from trivial) _ z, hs.grown hg⟩
  · simp only [if_neg hy]
    have hne : (Lit.int .u8 y) ≠ (Lit.int .u8 c) := by intro h; injection h with _ h2; exact hy h2
    refine ⟨fun h => ?_, fun f' hf' => ?_⟩
    · rw [has_put_other hne]; exact (hD y).1 h
    · obtain ⟨h1, s', h2, h3⟩ := (hD y).2 f' hf'
      exact ⟨by rw [has_put_other hne]; exact h1, s', fun z => by rw [atKey_put_other hne]; exact h2 z, h3.grown hg⟩
theorem KidsAt.alloc {w : World} {B : Nat} {s : Value} {kids : List Int} (h : KidsAt w B s kids) (o : Obj) : KidsAt (w.alloc o) B s kids := h.grown (World.grownBy_alloc w o (some B))
theorem MapAt.alloc {w : World} {B n : Nat} {F : Int → Option Form} (h : MapAt w B n F) (o : Obj) : MapAt (w.alloc o) B n F := by
  obtain ⟨D, hD, hD2⟩ := h
  exact ⟨D, hD.alloc o, fun c => ⟨(hD2 c).1, fun f hf => by obtain ⟨h1, s, h2, h3⟩ := (hD2 c).2 f hf; exact ⟨h1, s, h2, h3.alloc o⟩⟩⟩
/-- The map so far, and that nothing below has turned. -/
def MapIn (base : Nat) (w0 w : World) (B n : Nat) (F : Int → Option Form) : Prop := MapAt w B n F ∧ Below base w0 w ∧ base ≤ B
theorem MapIn.alloc {base : Nat} {w0 w : World} {B n : Nat} {F : Int → Option Form} (h : MapIn base w0 w B n F) (o : Obj) : MapIn base w0 (w.alloc o) B n F :=
  ⟨h.1.alloc o, h.2.1.alloc (by have h1 := h.2.2; obtain ⟨D, hD, _⟩ := h.1; have := hD.lt; omega) o, h.2.2⟩
theorem MapIn.start (w : World) : MapIn w.heap.size w (w.alloc (.map #[] 0)) w.heap.size 0 (fun _ => none) :=
  ⟨⟨_, World.ownsMap_made w Tryd.prog 5 Rv, fun c => ⟨fun _ => rfl, fun f hf => by cases hf⟩⟩, (Below.refl _ _).alloc (Nat.le_refl _) _, Nat.le_refl _⟩
theorem MapIn.lt {base : Nat} {w0 w : World} {B n : Nat} {F : Int → Option Form} (h : MapIn base w0 w B n F) : B < w.heap.size := by obtain ⟨D, hD, _⟩ := h.1; exact hD.lt
theorem kids1 {base : Nat} {w0 w : World} {B n : Nat} {F : Int → Option Form} (h : MapIn base w0 w B n F) (x : Int) (t : TypeId) : KidsAt (w.alloc (.cells #[.int .u8 x] t)) B (.slice (some ⟨w.heap.size, 0, none⟩) 1 1) [x] :=
  Or.inr ⟨w.heap.size, by have := h.lt; omega, by simp, rfl, fun j => by rw [World.cell?_alloc_mark]; rfl⟩
theorem kids2 {base : Nat} {w0 w : World} {B n : Nat} {F : Int → Option Form} (h : MapIn base w0 w B n F) (x y : Int) (t : TypeId) : KidsAt (w.alloc (.cells #[.int .u8 x, .int .u8 y] t)) B (.slice (some ⟨w.heap.size, 0, none⟩) 2 2) [x, y] :=
  Or.inr ⟨w.heap.size, by have := h.lt; omega, by simp, rfl, fun j => by rw [World.cell?_alloc_mark]; rfl⟩
theorem kids3 {base : Nat} {w0 w : World} {B n : Nat} {F : Int → Option Form} (h : MapIn base w0 w B n F) (x y z : Int) (t : TypeId) : KidsAt (w.alloc (.cells #[.int .u8 x, .int .u8 y, .int .u8 z] t)) B (.slice (some ⟨w.heap.size, 0, none⟩) 3 3) [x, y, z] :=
  Or.inr ⟨w.heap.size, by have := h.lt; omega, by simp, rfl, fun j => by rw [World.cell?_alloc_mark]; rfl⟩
theorem wpList_form {base : Nat} {w0 : World} (w : World) {ops : Array Oper} {rest : List Oper} {o : Oper} {a : Act} {Q : Exit → Act → World → Prop}
    (hg : o.guard = none) (m x v : Operand) (t : TypeId) (hop : o.op = Op.insert t m x v) (e : TypeId) (ht : Tryd.prog.underlying t = some (.map 5 e))
    (B n : Nat) (F : Int → Option Form) (hown : MapIn base w0 w B n F) (hn : n < maxLen) (hm : a.eval m = .map (some B)) (c : Int) (hx : a.eval x = .int .u8 c) (hwf : (Lit.int .u8 c).wf = true)
    (is : Int) (nm : Bool) (lo hi : Int) (s : Value) (kids : List Int) (hv : a.eval v = .agg #[.int .u8 is, .bool nm, .int .i64 lo, .int .i64 hi, s]) (hs : KidsAt w B s kids)
    (hK : ∀ w', Aside0 (MapIn base w0 w' B (n + 1) (fun y => if y = c then some ⟨is, nm, lo, hi, kids⟩ else F y)) → wpList Tryd.prog ops Q rest (a.put o.dst undef) w') :
    wpList Tryd.prog ops Q (o :: rest) a w := by
  obtain ⟨⟨D, hD, hD2⟩, hB, hb⟩ := hown
  refine wpList_plain hg fun K' hK' => ?_
  obtain ⟨w', hrun, r1, r2⟩ := hD.update law8 ht hn (kl := .int .u8 c) (val := formV ⟨is, nm, lo, hi, kids⟩ s) (keyOf_int_mk Tryd.underlying5 hwf) (d := .held (formV ⟨is, nm, lo, hi, kids⟩ s)) (ps := []) rfl
  have hrun : (Instr.mapUpdate t (.map (some B)) (.int .u8 c) (.agg #[.int .u8 is, .bool nm, .int .i64 lo, .int .i64 hi, s])).run Tryd.prog w = .ok () w' := hrun
  have hJ : MapIn base w0 w' B (n + 1) (fun y => if y = c then some ⟨is, nm, lo, hi, kids⟩ else F y) :=
    ⟨MapAt.step (f := ⟨is, nm, lo, hi, kids⟩) hwf hD2 hD.isMap hs r1 r2, hB.grown r2 (by have := hD.lt; omega) (fun j hj => by cases hj; exact hb), hb⟩
  unfold Oper.wp
  simp [execOp, hop, hm, hx, hv, hrun, Result.andThen]
  exact hK' _ _ (hK w' ⟨hJ⟩)
theorem wpList_formU {base : Nat} {w0 : World} (w : World) {ops : Array Oper} {rest : List Oper} {o : Oper} {a : Act} {Q : Exit → Act → World → Prop}
    (hg : o.guard = none) (m x v : Operand) (t : TypeId) (hop : o.op = Op.mapUpdate t m x v) (e : TypeId) (ht : Tryd.prog.underlying t = some (.map 5 e))
    (B n : Nat) (F : Int → Option Form) (hown : MapIn base w0 w B n F) (hn : n < maxLen) (hm : a.eval m = .map (some B)) (c : Int) (hx : a.eval x = .int .u8 c) (hwf : (Lit.int .u8 c).wf = true)
    (is : Int) (nm : Bool) (lo hi : Int) (s : Value) (kids : List Int) (hv : a.eval v = .agg #[.int .u8 is, .bool nm, .int .i64 lo, .int .i64 hi, s]) (hs : KidsAt w B s kids)
    (hK : ∀ w', Aside0 (MapIn base w0 w' B (n + 1) (fun y => if y = c then some ⟨is, nm, lo, hi, kids⟩ else F y)) → wpList Tryd.prog ops Q rest (a.put o.dst undef) w') :
    wpList Tryd.prog ops Q (o :: rest) a w := by
  obtain ⟨⟨D, hD, hD2⟩, hB, hb⟩ := hown
  refine wpList_plain hg fun K' hK' => ?_
  obtain ⟨w', hrun, r1, r2⟩ := hD.update law8 ht hn (kl := .int .u8 c) (val := formV ⟨is, nm, lo, hi, kids⟩ s) (keyOf_int_mk Tryd.underlying5 hwf) (d := .held (formV ⟨is, nm, lo, hi, kids⟩ s)) (ps := []) rfl
  have hrun : (Instr.mapUpdate t (.map (some B)) (.int .u8 c) (.agg #[.int .u8 is, .bool nm, .int .i64 lo, .int .i64 hi, s])).run Tryd.prog w = .ok () w' := hrun
  have hJ : MapIn base w0 w' B (n + 1) (fun y => if y = c then some ⟨is, nm, lo, hi, kids⟩ else F y) :=
    ⟨MapAt.step (f := ⟨is, nm, lo, hi, kids⟩) hwf hD2 hD.isMap hs r1 r2, hB.grown r2 (by have := hD.lt; omega) (fun j hj => by cases hj; exact hb), hb⟩
  unfold Oper.wp
  simp [execOp, hop, hm, hx, hv, hrun, Result.andThen]
  exact hK' _ _ (hK w' ⟨hJ⟩)

def form0 (y : Int) : Option Form :=
  if y = 46 then some ⟨4, true, 0, 0, [8]⟩ else if y = 45 then some ⟨4, false, 0, 7, [1]⟩ else if y = 44 then some ⟨4, false, 0, 7, [2]⟩ else if y = 43 then some ⟨4, false, 1, 1000, [1, 8]⟩
  else if y = 42 then some ⟨4, true, 1, 1000, [8]⟩ else if y = 41 then some ⟨4, false, 0, 0, [1, 8, 8]⟩ else if y = 40 then some ⟨4, false, 0, 0, [2, 1]⟩ else if y = 5 then some ⟨1, false, 0, 0, [1]⟩
  else if y = 4 then some ⟨1, false, 0, 0, [1]⟩ else if y = 3 then some ⟨3, true, 0, 0, [1]⟩ else if y = 2 then some ⟨3, true, 0, 0, []⟩ else if y = 1 then some ⟨1, false, 0, 2147483647, []⟩ else none
def formK (k : Nat) (y : Int) : Option Form := if 6 ≤ y ∧ y < k then some ⟨1, false, 0, 0, [1, 1]⟩ else form0 y
theorem formK_start : formK 6 = form0 := by funext y; unfold formK; rw [if_neg (by omega)]
theorem formK_step (k : Nat) (hk : 6 ≤ k) : (fun y => if y = (k : Int) then some ⟨1, false, 0, 0, [1, 1]⟩ else formK k y) = formK (k + 1) := by
  funext y
  unfold formK
  by_cases h1 : y = (k : Int)
  · rw [if_pos h1, if_pos (by omega)]
  · rw [if_neg h1]
    by_cases h2 : 6 ≤ y ∧ y < (k : Int)
    · rw [if_pos h2, if_pos (by omega)]
    · rw [if_neg h2, if_neg (by omega)]
set_option maxHeartbeats 4000000 in
set_option maxRecDepth 100000 in
theorem forms (w : World) : Calls Tryd.prog 83 #[] w fun e w' => ∃ B n, e = .returned (.map (some B)) ∧ MapAt w' B n (formK 24) ∧ Below w.heap.size w w' := by
  have hmm := @run_makeMap Tryd.prog
  have H0 := Aside0.mk (MapIn.start w)
  go_enter Tryd.func83, Tryd.ntmps83
  go_wp2_with (first | (refine wpList_form _ rfl _ _ _ _ rfl _ Tryd.underlying86 _ _ _ (by first | exact Aside0.out (by assumption) | exact MapIn.alloc (Aside0.out (by assumption)) _) (by decide) rfl _ rfl (by decide) _ _ _ _ _ _ rfl (by first | exact Or.inl ⟨rfl, rfl⟩ | exact kids1 (Aside0.out (by assumption)) _ _ | exact kids2 (Aside0.out (by assumption)) _ _ _ | exact kids3 (Aside0.out (by assumption)) _ _ _ _) ?_; intro w1 H1) | go_in)
  go_loopw [2, 27, 32] (fun v _ _ wr => ∃ k n : Nat, 6 ≤ k ∧ k ≤ 24 ∧ n ≤ k + 6 ∧ v = .int .u8 k ∧ Aside0 (MapIn w.heap.size w wr w.heap.size n (formK k))) (fun v _ _ _ => 24 - (intOf v).toNat)
  case atStart =>
    refine ⟨6, 12, by omega, by omega, by omega, rfl, ⟨?_⟩⟩
    have h := Aside0.out (by assumption : Aside0 (MapIn _ _ _ _ 12 _))
    rw [formK_start]
    exact h
  case round =>
    obtain ⟨k, n, hk6, hk, hn, rfl, HM⟩ := hrel
    have HS := Aside0.mk (formK_step k hk6)
    clear H0
    by_cases hlt : k ≤ 23
    · have hwf : (Lit.int .u8 (k : Int)).wf = true := WalkArith.wf_u8 ⟨by omega, by omega⟩
      go_wp2_with (first | (refine wpList_formU _ rfl _ _ _ _ rfl _ Tryd.underlying86 _ _ _ (MapIn.alloc HM.out _) (by unfold maxLen; omega) rfl _ rfl hwf _ _ _ _ _ _ rfl (kids2 HM.out _ _ _) ?_; intro w2 H2) | go_in)
      go_roundw
      case rel => exact ⟨k + 1, n + 1, by omega, by omega, by omega, by go_num, ⟨HS.out ▸ H2.out⟩⟩
      case measure => simp [intOf]; omega
    · have ek : k = 24 := by omega
      subst ek
      go_wp2
      go_ret
      exact ⟨_, _, rfl, HM.out.1, HM.out.2.1⟩
end Go.Proofs.YtmdbbfoejmakdaaDoor.Ha

/-
  A region that draws its order, within a round of a range over a function: by the laws of a plain region under a condition that is held. By this session, out of its own program (wip/gen).
-/
import Derived.Test.YtmdbbfoejmakdaaDoorHrng
import Derived.OrdersHeld
import Derived.Deep.RegionHeld
namespace Go.Proofs.YtmdbbfoejmakdaaDoor.Ha
open Go.RowKit
set_option linter.unusedVariables false
section
variable {n l : Nat} {P : Program} {ops : Array Oper} {Q : Exit → Act → World → Prop} {md : Region.Mode} {S : World → Prop}
theorem wpOpIn_of {i : Nat} {K K' : Act → World → Prop} {a : Act} {w : World} (hnd : ∀ (i : Nat) (o : Oper), ops[i]? = some o → ∀ c, o.op ≠ .defer c) (hL : ¬ LetsOut Q) (hK : ∀ a w, K a w → K' a w) (h : wpOp P ops Q i K a w) : wpOpIn (Fence.wide.inRound l) n P ops Q i K' a w := by
  replace h := wpOp_mono hK h
  unfold wpOp at h
  unfold wpOpIn
  cases ho : ops[i]? with
  | none => rw [ho] at h; exact h
  | some o =>
    rw [ho] at h
    simp only at h ⊢
    split
    · rename_i hw
      rw [if_pos hw] at h
      rcases h with h | ⟨_, h⟩
      · unfold Oper.wp at h
        unfold Oper.wpIn
        rw [Oper.semAt_eq _ _ _ (hnd i o ho)]
        refine ⟨fun _ _ => trivial, ?_⟩
        generalize (execOp a.eval o).run P w = r at *
        cases r with
        | ok x w' =>
          cases x with
          | enter f args => exact ⟨fun h => by simp [Fence.wide, Fence.inRound] at h, callsIn_wide.2 h⟩
          | row r args => exact ⟨fun h => by simp [Fence.wide, Fence.inRound] at h, fun c cs _ => let ⟨v, w2, r, s⟩ := h c cs; ⟨v, w2, r, stepsIn_wide.2 s⟩⟩
          | _ => first | exact h | exact False.elim h
        | halt x w' => cases x <;> exact h
      · exact absurd h hL
    · rename_i hw
      rw [if_neg hw] at h
      exact ⟨fun _ _ => trivial, h⟩
theorem wpAnyIn_of (hnd : ∀ (i : Nat) (o : Oper), ops[i]? = some o → ∀ c, o.op ≠ .defer c) (hL : ¬ LetsOut Q) : ∀ (fuel : Nat) (listed : Array Bool) (a : Act) (w : World), wpAny P md ops Q fuel listed a w → wpAnyIn (Fence.wide.inRound l) n P md ops Q fuel listed a w
  | 0, _, _, _, h => h
  | fuel + 1, listed, a, w, h => ⟨h.1, fun i hi => wpOpIn_of hnd hL (fun a' w' h' => wpAnyIn_of hnd hL fuel _ a' w' h') (h.2 i hi)⟩
/-- A cut behind a region. -/
def cutR (R : Act → World → Prop) : Exit → Act → World → Prop
  | .normal, a, w => R a w
  | _, _, _ => False
theorem cutR_lets (R : Act → World → Prop) : ¬ LetsOut (cutR R) := fun ⟨_, _, h⟩ => h
theorem cutR_panic (R : Act → World → Prop) (v : Value) (d : Option Tmp) : ∀ c a w, cutR R (.panic c) (a.put d v) w → cutR R (.panic c) a w := fun _ _ _ h => h
theorem cutR_intro {Q : Exit → Act → World → Prop} {a : Act} {w : World} (h : Q .normal a w) : cutR (Q .normal) .normal a w := h
/-- Behind the region the world is named anew; what is known of it stays. -/
theorem cutR_world {R : Act → World → Prop} {a : Act} {w : World} (Pr : World → Prop) (hp : Pr w) (h : ∀ w', Pr w' → R a w') : cutR R .normal a w := h w hp
/-- The beginning: as of a plain region. -/
theorem region_round_held {id : Nat} {a : Act} {w : World} {lo : List Oper} (S : World → Prop) (hnd : lo.all noDefer = true) (hm : P.follows .mixedOrders = true) (hS : S w.drew)
    (h : S w.drew → wpAnyH P .any lo.toArray (cutR (Q .normal)) S lo.toArray.size (Array.replicate lo.toArray.size false) a w.drew) : (Code.region id lo.toArray true).wpIn (Fence.wide.inRound l) n P Q a w :=
  wpIn_mono (Q := cutR (Q .normal)) (wpIn_region_any hm (wpAnyIn_of (noDefer_all hnd) (cutR_lets _) _ _ _ _ (wpAny_of_held _ _ _ _ (h hS)))) (fun e a w h => by cases e <;> first | exact h | exact False.elim h)
end
/-- The i-th of a list, by going through it. -/
def nth : List Oper → Nat → Option Oper
  | [], _ => none
  | o :: _, 0 => some o
  | _ :: r, i + 1 => nth r i
theorem nth_eq (l : List Oper) : ∀ i, nth l i = l[i]? := by
  induction l with
  | nil => intro i; simp [nth]
  | cons o r ih =>
    intro i
    cases i with
    | zero => rfl
    | succ i => rw [nth, ih]; simp
section
variable {P : Program} {lo : List Oper} {Q : Exit → Act → World → Prop} {md : Region.Mode} {S : World → Prop}
theorem held_take (i : Nat) {oi : Oper} {v : Value} {R : Act → World → Prop} {fuel : Nat} {listed : Array Bool} {a : Act} {w : World} (hi : nth lo i = some oi)
    (hs : Region.noSelect lo.toArray = true) (hf : Region.free md lo.toArray listed i = true) (hr : (Region.ready md lo.toArray listed).contains i = true)
    (hw : Region.wanted oi (yielded lo.toArray a.tmps) = true) (hS : S w) (hy : ∀ w, S w → (execOp a.eval oi).run P w = .ok (.value v) w)
    (h : wpAnyH P md lo.toArray (cutR R) S fuel (listed.setIfInBounds i true) (a.put oi.dst v) w) : wpAnyH P md lo.toArray (cutR R) S (fuel + 1) listed a w :=
  wpAnyH_take (by rw [List.getElem?_toArray, ← nth_eq]; exact hi) hs hf hr (fun _ _ _ h => h) (Or.inl ⟨hw, hy⟩) hS h
theorem held_cons {fuel : Nat} {listed : Array Bool} {a : Act} {w : World} {i : Nat} {o : Oper} {rs : List Nat} (ho : nth lo i = some o)
    (hw : Region.wanted o (yielded lo.toArray a.tmps) = true)
    (h : ∀ K' : Act → World → Prop, Shut (∀ a w, S w → (S w → wpAnyH P md lo.toArray Q S fuel (listed.setIfInBounds i true) a w) → K' a w) → Oper.wp P o a w K' Q)
    (hs : AllReadyH P md lo.toArray Q S fuel listed a w rs) : AllReadyH P md lo.toArray Q S fuel listed a w (i :: rs) :=
  AllReadyH.cons (by rw [List.getElem?_toArray, ← nth_eq]; exact ho) (fun K hK => by rw [if_pos hw]; exact h K hK) hs
end
end Go.Proofs.YtmdbbfoejmakdaaDoor.Ha

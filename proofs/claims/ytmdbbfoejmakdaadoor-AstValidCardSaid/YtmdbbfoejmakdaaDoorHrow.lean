/-
  Rows of nodes that are made by append: what a row of its own reads as; an append's law with the row's place. By this session, out of its own program (wip/gen).
-/
import Derived.Test.YtmdbbfoejmakdaaDoorHfun
import Derived.Test.YtmdbbfoejmakdaaDoorHopen
import Derived.Test.YtmdbbfoejmakdaaDoorHrnd
namespace Go.Proofs.YtmdbbfoejmakdaaDoor.Ha
open Go.RowKit Go.Proofs.YtmdbbfoejmakdaaDoorW.PrintWords Go.Proofs.YtmdbbfoejmakdaaDoorW.PrintLast Go.Proofs.YtmdbbfoejmakdaaDoorW.PrintMore Go.Proofs.YtmdbbfoejmakdaaDoor.P
set_option linter.unusedVariables false
set_option linter.unusedSimpArgs false
theorem flat4 : ∀ (cs : List (List Value)), (∀ c ∈ cs, c.length = 4) → ∀ k i, i < 4 → cs.flatten[k * 4 + i]? = (cs[k]?).bind (fun c => c[i]?)
  | [], _, k, i, _ => by simp
  | c :: r, h, 0, i, hi => by
    have hc := h c (List.mem_cons_self ..)
    rw [List.flatten_cons, Nat.zero_mul, Nat.zero_add, List.getElem?_append_left (by omega)]
    rfl
  | c :: r, h, k + 1, i, hi => by
    have hc := h c (List.mem_cons_self ..)
    rw [List.flatten_cons, List.getElem?_append_right (by omega), show (k + 1) * 4 + i - c.length = k * 4 + i by omega, flat4 r (fun d hd => h d (List.mem_cons_of_mem _ hd)) k i hi]
    rfl
theorem flat_len : ∀ (cs : List (List Value)), (∀ c ∈ cs, c.length = 4) → cs.flatten.length = cs.length * 4
  | [], _ => rfl
  | c :: r, h => by
    rw [List.flatten_cons, List.length_append, flat_len r (fun d hd => h d (List.mem_cons_of_mem _ hd)), h c (List.mem_cons_self ..), List.length_cons]
    omega
/-- The cells of a row of nodes: each node's four cells. -/
structure RowOf (w : World) (ys : List Nd) (cs : List (List Value)) : Prop where
  len : cs.length = ys.length
  four : ∀ c ∈ cs, c.length = 4
  oneC : ∀ c ∈ cs, ∀ u ∈ c, u.oneCell' = true
  K : ∀ (k : Nat) (c : List Value) (y : Nd), cs[k]? = some c → ys[k]? = some y → k24.K w y c
theorem RowOf.below {w w' : World} {ys : List Nd} {cs : List (List Value)} (h : RowOf w ys cs) (hb : Below w.heap.size w w') : RowOf w' ys cs := ⟨h.len, h.four, h.oneC, fun k c y h1 h2 => Kd.K_below _ hb (h.K k c y h1 h2)⟩
theorem RowOf.take {w : World} {ys : List Nd} {cs : List (List Value)} (h : RowOf w ys cs) (m : Nat) : RowOf w (ys.take m) (cs.take m) :=
  ⟨by rw [List.length_take, List.length_take, h.len], fun c hc => h.four c (List.mem_of_mem_take hc), fun c hc => h.oneC c (List.mem_of_mem_take hc), fun k c y h1 h2 => by
    have a := (List.getElem?_eq_some_iff.1 h1).1
    rw [List.length_take] at a
    rw [List.getElem?_take_of_lt (by omega)] at h1 h2
    exact h.K k c y h1 h2⟩
theorem RowOf.drop {w : World} {ys : List Nd} {cs : List (List Value)} (h : RowOf w ys cs) (m : Nat) : RowOf w (ys.drop m) (cs.drop m) :=
  ⟨by rw [List.length_drop, List.length_drop, h.len], fun c hc => h.four c (List.mem_of_mem_drop hc), fun c hc => h.oneC c (List.mem_of_mem_drop hc), fun k c y h1 h2 => by
    rw [List.getElem?_drop] at h1 h2
    exact h.K (m + k) c y h1 h2⟩
theorem RowOf.append {w : World} {ys zs : List Nd} {cs ds : List (List Value)} (h : RowOf w ys cs) (g : RowOf w zs ds) : RowOf w (ys ++ zs) (cs ++ ds) :=
  ⟨by rw [List.length_append, List.length_append, h.len, g.len], fun c hc => (List.mem_append.1 hc).elim (h.four c) (g.four c), fun c hc => (List.mem_append.1 hc).elim (h.oneC c) (g.oneC c), fun k c y h1 h2 => by
    by_cases hk : k < ys.length
    · rw [List.getElem?_append_left (by rw [h.len]; exact hk)] at h1
      rw [List.getElem?_append_left hk] at h2
      exact h.K k c y h1 h2
    · rw [List.getElem?_append_right (by rw [h.len]; omega), h.len] at h1
      rw [List.getElem?_append_right (by omega)] at h2
      exact g.K _ c y h1 h2⟩
theorem RowOf.single {w : World} {y : Nd} {A : Option Addr} {c : Nat} (h : At w y A c) : RowOf w [y] [[.int .u8 y.f0, .int .i64 y.f1, .string y.f2, .slice A y.f3.length c]] :=
  ⟨rfl, fun c hc => by simp at hc; subst hc; rfl, fun c hc u hu => by simp at hc; subst hc; simp at hu; rcases hu with rfl | rfl | rfl | rfl <;> rfl, fun k c' z h1 h2 => by
    have hk := (List.getElem?_eq_some_iff.1 h1).1
    obtain rfl : k = 0 := by simpa using hk
    simp at h1 h2
    subst h1
    subst h2
    exact k24_mk w y h.2 h.1⟩
theorem RowOf.nil (w : World) : RowOf w [] [] := ⟨rfl, fun c hc => (by cases hc), fun c hc => (by cases hc), fun k c y h1 => (by simp at h1)⟩
/-- The row that a tree's children lie in. -/
theorem row_of {w : World} {x : Nd} {A : Option Addr} {c : Nat} (h : At w x A c) (hn : x.f3.length ≠ 0) : ∃ ad cs, A = some ad ∧ RowOf w x.f3 cs ∧ ∀ k d, cs[k]? = some d → ∀ i u, d[i]? = some u → w.cell? (ad.add (k * 4 + i)) = some u := by
  obtain ⟨⟨_, _, h3⟩, _⟩ := h
  obtain ⟨ad, e, hc0⟩ := h3 (by omega)
  have H : ∀ i, i < x.f3.length → ∃ d : List Value, d.length = 4 ∧ (∀ u ∈ d, u.oneCell' = true) ∧ (∀ y, x.f3[i]? = some y → k24.K w y d) ∧ ∀ j u, d[j]? = some u → w.cell? (ad.add (i * 4 + j)) = some u := fun i hi => by
    obtain ⟨d, hl, hK, hcell⟩ := hc0 i _ (List.getElem?_eq_getElem hi)
    obtain ⟨A3, c3, rfl, l3, g3⟩ := k24_open hK
    refine ⟨_, rfl, fun u hu => ?_, fun y hy => ?_, fun j u hu => hcell j u hu⟩
    · simp at hu
      rcases hu with rfl | rfl | rfl | rfl <;> rfl
    · rw [List.getElem?_eq_getElem hi] at hy
      cases hy
      exact hK
  obtain ⟨cs, hl, hP⟩ := list_of x.f3.length H
  refine ⟨ad, cs, e, ⟨hl, fun c hc => ?_, fun c hc => ?_, fun k c y h1 h2 => (hP k c h1).2.2.1 y h2⟩, fun k d h1 => (hP k d h1).2.2.2⟩
  · obtain ⟨i, hi⟩ := List.getElem?_of_mem hc
    exact (hP i c hi).1
  · obtain ⟨i, hi⟩ := List.getElem?_of_mem hc
    exact (hP i c hi).2.1
theorem row_news {w : World} {ad : Addr} {cs : List (List Value)} (hf : ∀ c ∈ cs, c.length = 4) (h : ∀ k d, cs[k]? = some d → ∀ i u, d[i]? = some u → w.cell? (ad.add (k * 4 + i)) = some u) : ∀ j u, cs.flatten[j]? = some u → w.cell? (ad.add j) = some u := by
  intro j u hu
  have e : j = j / 4 * 4 + j % 4 := by omega
  rw [e, flat4 cs hf _ _ (by omega), Option.bind_eq_some_iff] at hu
  obtain ⟨d, hd, hi⟩ := hu
  rw [e]
  exact h _ d hd _ u hi
/-- A row of its own that holds nodes' cells is a block's row. -/
theorem row_tree {w : World} {base n c' : Nat} {A' : Option Addr} {ys : List Nd} {cs : List (List Value)} (h : w.ownsRow base 24 4 (.slice A' n c') n cs.flatten) (hr : RowOf w ys cs) (hn : n = ys.length) (hmax : n ≤ 1000000) (k0 k1 : Int) (nm : ByteArray) : At w ⟨k0, k1, nm, ys⟩ A' c' := by
  subst hn
  refine ⟨⟨rfl, by simp only; omega, fun hp => ?_⟩, ?_⟩
  · obtain ⟨g, cap, e⟩ := Joins.ownsRow_form h hp
    simp only [Value.slice.injEq, true_and] at e
    obtain ⟨rfl, rfl⟩ := e
    refine ⟨_, rfl, fun k y hk => ?_⟩
    have hk' : k < ys.length := (List.getElem?_eq_some_iff.1 hk).1
    have hck : cs[k]? = some (cs[k]'(by rw [hr.len]; exact hk')) := List.getElem?_eq_getElem _
    refine ⟨_, hr.four _ (List.mem_of_getElem? hck), hr.K k _ y hck hk, fun i u hu => ?_⟩
    have hi : i < 4 := by have := (List.getElem?_eq_some_iff.1 hu).1; rw [hr.four _ (List.mem_of_getElem? hck)] at this; exact this
    have := h.cells (g := g) rfl (k * 4 + i) u (by rw [flat4 cs hr.four k i hi, hck]; exact hu)
    exact this
  · rcases h.2 with ⟨e, h0⟩ | ⟨g, cap, cur, e, _, _, hnc, _⟩
    · simp only; omega
    · simp only [Value.slice.injEq, true_and] at e
      obtain ⟨_, rfl⟩ := e
      exact hnc
theorem wp_append_at {P : Program} {w : World} {o : Oper} {a : Act} {K : Act → World → Prop} {Q : Exit → Act → World → Prop} (s x : Operand) (t : TypeId)
    (ho : o.op = .call { callee := .builtin .append, args := #[s, x], argTypes := #[t, t] })
    (base : Nat) (e : TypeId) (z : Value) (size bytes : Nat) (ht : P.underlying t = some (.slice e)) (hinfo : (P.info? e).map (fun i => (i.zero, i.size, i.bytes)) = some (some z, size, bytes)) (hzs : z.cells.size = size) (hsz : 0 < size)
    (A : Option Addr) (n c0 : Nat) (xs : List Value) (hs : a.eval s = .slice A n c0) (hown : w.ownsRow base e size (.slice A n c0) n xs)
    (ad : Addr) (m c : Nat) (news : List Value) (hx : a.eval x = .slice (some ad) m c) (hl : news.length = m * size) (hnews : ∀ j u, news[j]? = some u → w.cell? (ad.add j) = some u) (h1 : ∀ u ∈ news, u.oneCell' = true)
    (n' : Nat) (hn' : n + m = n') (xs' : List Value) (hxs' : xs ++ news = xs') (h63 : n' ≤ 1000000) (hbytes : bytes ≤ 1000) (hbase : base ≤ w.heap.size)
    (h : ∀ A' c' w', w'.ownsRow base e size (.slice A' n' c') n' xs' → w.grownBy w' (Value.slice A n c0).ownBlock → ((Value.slice A' n' c').ownBlock = (Value.slice A n c0).ownBlock ∨ ∃ b, (Value.slice A' n' c').ownBlock = some b ∧ w.heap.size ≤ b) → K (a.put o.dst (.slice A' n' c')) w') : o.wp P a w K Q := by
  subst hn'
  subst hxs'
  obtain ⟨i0, hi, hzz⟩ := Option.map_eq_some_iff.1 hinfo
  simp only [Prod.mk.injEq] at hzz
  obtain ⟨hz0, hz1, hz2⟩ := hzz
  have hby : (n + m) * bytes ≤ 1000000 * 1000 := Nat.mul_le_mul h63 hbytes
  obtain ⟨v', w', hr, h2, h3, h4, h5⟩ := run_append_own_at (P := P) w base t o.type e i0 z size bytes ht hi hz0 hz1 hz2 hzs hsz _ n xs hown ad m c news hl hnews h1 (by unfold maxLen; omega) (by omega) hbase
  obtain ⟨A', c', rfl⟩ : ∃ A' c', v' = .slice A' (n + m) c' := by
    rcases h2.2 with ⟨e1, e2⟩ | ⟨g, cap, cur, e1, _⟩
    · exact ⟨none, 0, by rw [e1, e2]⟩
    · exact ⟨_, _, e1⟩
  unfold Oper.wp execOp
  simp only [ho, resolve, invoke, builtin, Sem.run_bind, Sem.run_pure, Result.andThen_ok, List.map_toArray, List.map_cons, List.map_nil, hs, hx, hr]
  exact h A' c' w' h2 h3 (h5.imp id fun e => ⟨_, e, Nat.le_refl _⟩)
theorem heap_keep {w w' : World} {row : Option Nat} {b : Nat} {o : Obj} (hg : w.grownBy w' row) (h : w.heap[b]? = some o) (hne : row ≠ some b) : w'.heap[b]? = some o := (hg.block b (Array.getElem?_eq_some_iff.1 h).1 (fun e => hne (by rw [← e]))).trans h
theorem heap_alloc {w : World} {b : Nat} {o o' : Obj} (h : w.heap[b]? = some o) : (w.alloc o').heap[b]? = some o := (Below.heap_alloc w o' b (Array.getElem?_eq_some_iff.1 h).1).trans h
theorem heap_lt {w : World} {b : Nat} {o : Obj} (h : w.heap[b]? = some o) : b < w.heap.size := (Array.getElem?_eq_some_iff.1 h).1
theorem heap_cells {w : World} {b : Nat} {cs : Array Value} {t : TypeId} (h : w.heap[b]? = some (.cells cs t)) (j : Nat) : w.cell? ⟨b, j, none⟩ = cs[j]? := by
  unfold World.cell?
  rw [h]
  simp
theorem heap_frozen {w : World} {b : Nat} {cs : Array Value} {t : TypeId} (h : w.heap[b]? = some (.cells cs t)) (j : Nat) : w.frozen? ⟨b, j, none⟩ = false := by
  unfold World.frozen?
  rw [h]
  simp
theorem own_keep {w w' : World} {base size n : Nat} {e : TypeId} {v : Value} {xs : List Value} (h : w.ownsRow base e size v n xs) (hk : ∀ g, v.ownBlock = some g → w'.heap[g]? = w.heap[g]?) : w'.ownsRow base e size v n xs := by
  refine ⟨h.1, ?_⟩
  rcases h.2 with h2 | ⟨g, cap, cur, hv, hg, hh, r⟩
  · exact Or.inl h2
  · exact Or.inr ⟨g, cap, cur, hv, hg, (hk g (by rw [hv]; rfl)).trans hh, r⟩
theorem own_ne {w : World} {base size n : Nat} {e : TypeId} {v : Value} {xs : List Value} (h : w.ownsRow base e size v n xs) : v.ownBlock ≠ some w.heap.size := fun e => by have := (World.ownsRow.lt h _ e).2; omega
theorem at_ne {w : World} {v v' : Value} {b : Nat} (hat : v'.ownBlock = v.ownBlock ∨ ∃ k, v'.ownBlock = some k ∧ w.heap.size ≤ k) (hne : v.ownBlock ≠ some b) (hb : b < w.heap.size) : v'.ownBlock ≠ some b := fun e => by
  rcases hat with h | ⟨k, h, hk⟩
  · exact hne (h ▸ e)
  · rw [h] at e
    cases e
    omega
section
variable {P : Program} {lo : List Oper} {Q : Exit → Act → World → Prop} {md : Region.Mode} {S : World → Prop}
/-- The world is named anew; what is known of it stays. -/
theorem held_world {fuel : Nat} {listed : Array Bool} {a : Act} {w : World} (Pr : World → Prop) (hp : Pr w) (h : ∀ w', Pr w' → wpAnyH P md lo.toArray Q S fuel listed a w') : wpAnyH P md lo.toArray Q S fuel listed a w := h w hp
/-- A plain region that draws: its beginning, with a cut behind it. -/
theorem region_held_cut {Q : Exit → Act → World → Prop} {id : Nat} {a : Act} {w : World} {lo : List Oper} (R : Act → World → Prop) (S : World → Prop) (hm : P.follows .mixedOrders = true) (hS : S w.drew) (hR : ∀ a w, R a w → Q .normal a w)
    (h : S w.drew → wpAnyH P .any lo.toArray (cutR R) S lo.toArray.size (Array.replicate lo.toArray.size false) a w.drew) : (Code.region id lo.toArray true).wp P Q a w :=
  Code.wp_mono (Q := cutR R) (fun e a w h => by cases e <;> first | exact hR _ _ h | exact False.elim h) (wp_region_held_drew hm hS h)
end
end Go.Proofs.YtmdbbfoejmakdaaDoor.Ha
